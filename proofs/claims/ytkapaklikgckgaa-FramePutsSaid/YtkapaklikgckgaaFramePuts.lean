/-
  The law FramePuts: the walk.
-/
import Derived.Test.YtkapaklikgckgaaFrameLaw
import Derived.Test.YtkapaklikgckgaaFrameW8
import Derived.Test.YtkapaklikgckgaaOpen
namespace Go.Proofs.Ytkapaklikgckgaa.framePuts
open Go.RowKit
set_option linter.unusedVariables false
set_option linter.unusedSimpArgs false

set_option maxRecDepth 100000 in
set_option maxHeartbeats 800000 in
theorem law_any (A : Option Addr) (n c : Nat) (b : List UInt8) (kind : Int) (B : Option Addr) (m d : Nat) (l : List UInt8) (w : World) (h0 : IsB w A n c b) (hk : -9223372036854775808 ≤ kind ∧ kind ≤ 9223372036854775807) (h2 : IsB w B m d l) :
    Calls Try.prog 3 #[.slice A n c, .int .i64 kind, .slice B m d] w fun e w' => e = .returned (.bool true) ∧ Up w w' := by
  obtain ⟨hr, hnc, -⟩ := h0
  obtain ⟨hb, hmd, -⟩ := h2
  have HN := Lib.hid hr.blen
  have HM := Lib.hid hb.blen
  by_cases t0 : 2000 < n
  · go_enter Try.func3, Try.ntmps3
    go_wp2_with (go_at_call 9; with_reducible refine (awake3_any _).mono ?_; rintro e w4 ⟨rfl, hu4⟩)
    go_ret
    exact ⟨rfl, hu4⟩
  have g0 : decide (2000 < (n : Int)) = false := by simp; omega
  by_cases t1 : 3000 < m
  · go_enter Try.func3, Try.ntmps3
    go_wp2_with (go_at_call 9; with_reducible refine (awake3_any _).mono ?_; rintro e w4 ⟨rfl, hu4⟩)
    go_ret
    exact ⟨rfl, hu4⟩
  have g1 : decide (3000 < (m : Int)) = false := by simp; omega
  have hlm : putE kind l.length = putE kind m := by rw [HM.out]
  by_cases hE : putE kind m = 0
  · obtain ⟨k, hk, k1, k2⟩ : ∃ k : Nat, kind = (k : Int) ∧ 1 ≤ k ∧ k ≤ 100 := by
      unfold putE at hE
      by_cases h1 : kind < 1 ∨ 100 < kind
      · rw [if_pos h1] at hE; cases hE
      · exact ⟨kind.toNat, by omega, by omega, by omega⟩
    subst hk
    have hl60 : l.length ≤ 60000 := by have := HM.out; omega
    have hL : putL b (k : Int) l = b ++ frameB (k : Int) l := by unfold putL; rw [hlm, hE, if_pos rfl]
    have hT := takeF_frame b k l [] k1 k2 hl60
    rw [List.append_nil, ← hL, ← HN.out, ← HM.out] at hT
    have hlen : (putL b (k : Int) l).length = n + (m + 12) := by rw [hL, List.length_append, frameB_len, ← HN.out, ← HM.out]
    have hfl : (frameB (k : Int) l).length = m + 12 := by rw [frameB_len, ← HM.out]
    have hbl : b.length = n := HN.out.symm
    have hfok := fun W => frameok_any (k : Int) m W (by omega)
    rw [hE] at hfok
    have hq : ((tx (putL b (k : Int) l)).toList == (tx (cc b (frameB (k : Int) l))).toList) = true := tx_beq hL
    have hq2 : ((tx l).toList == (tx l).toList) = true := tx_beq rfl
    have HF := Lib.hid hfok
    have HE := Lib.hid (hlm.trans hE)
    have HT := Lib.hid hT
    have HLn := Lib.hid hlen
    clear hfok hE hL hT hlen hlm
    have hk1 : (1 : Int) ≤ k ∧ (k : Int) ≤ 100 := by omega
    go_enter Try.func3, Try.ntmps3
    go_wp2_with fail
    refine (put_any A n c b (k : Int) B m d l w hr hb (by omega) (by omega)).mono ?_
    rintro e w1 ⟨A1, n1, c1, rfl, ho1, hu1⟩
    rw [HE.out]
    have hn1 : n1 = n + (m + 12) := by rw [ho1.len, HLn.out]
    subst hn1
    have hc1 := ho1.cap
    have hx := ho1.rd
    clear ho1
    go_wp2_with fail
    refine (HF.out w1).mono ?_
    rintro e w2 ⟨rfl, rfl⟩
    go_wp2_with fail
    refine (ftake_any A1 (n + (m + 12)) c1 _ (n : Int) w1 hx (by omega) hc1).mono ?_
    rintro e w2 ⟨A2, n2, c2, rfl, ho2, hu2⟩
    rw [HT.out] at ho2 ⊢
    have hn2 : m = n2 := by rw [ho2.len]; exact HM.out
    subst hn2
    have hy := ho2.rd
    have hx2 := hx.up hu2
    have hu12 := hu1.trans hu2
    have hb2 := hb.up hu12
    have hr2 := hr.up hu12
    clear ho2 hx hr hb
    generalize hP : putL b (k : Int) l = P at *
    clear hP
    go_wp2_with fail
    apply Rg.region_up (fun W => Up w2 W) (by kernel_rfl) (by kernel_rfl) (fun w1 h => h)
    · intro QN hQN
      iterate 3 (apply Rg.RK.ok; (· intro vs w1 hS; go_simp; with_reducible rfl); (· rfl); simp only [Act.put, List.setIfInBounds_toArray, List.set_cons_zero, List.set_cons_succ, Nat.reduceAdd])
      iterate 1 (apply Rg.RK.gok (t := 58); (· intro vs w1 hS; go_simp; with_reducible rfl); (· rfl); (· intro vs; rfl); simp only [Act.put, List.setIfInBounds_toArray, List.set_cons_zero, List.set_cons_succ, Nat.reduceAdd])
      apply Rg.RK.gok (t := 58) (v := .string (tx (P)))
      · intro vs w1 hS
        exact exec_str rfl rfl (hx2.up hS)
      · rfl
      · intro vs; rfl
      simp only [Act.put, List.setIfInBounds_toArray, List.set_cons_zero, List.set_cons_succ, Nat.reduceAdd]
      iterate 1 (apply Rg.RK.gok (t := 58); (· intro vs w1 hS; go_simp; with_reducible rfl); (· rfl); (· intro vs; rfl); simp only [Act.put, List.setIfInBounds_toArray, List.set_cons_zero, List.set_cons_succ, Nat.reduceAdd])
      apply Rg.RK.gok (t := 58) (v := .string (tx (b)))
      · intro vs w1 hS
        exact exec_str rfl rfl (hr2.up hS)
      · rfl
      · intro vs; rfl
      simp only [Act.put, List.setIfInBounds_toArray, List.set_cons_zero, List.set_cons_succ, Nat.reduceAdd]
      iterate 2 (apply Rg.RK.gok (t := 58); (· intro vs w1 hS; go_simp; with_reducible rfl); (· rfl); (· intro vs; rfl); simp only [Act.put, List.setIfInBounds_toArray, List.set_cons_zero, List.set_cons_succ, Nat.reduceAdd])
      apply Rg.RK.gok (t := 58) (v := .string (tx (l)))
      · intro vs w1 hS
        exact exec_str rfl rfl (hb2.up hS)
      · rfl
      · intro vs; rfl
      simp only [Act.put, List.setIfInBounds_toArray, List.set_cons_zero, List.set_cons_succ, Nat.reduceAdd]
      apply Rg.RK.gcall (t := 58) (.string (tx (frameB (k : Int) l))) []
      · rfl
      · intro vs; rfl
      · intro vs w1 hK hS _ K hKK
        go_simp
        refine (rframe_any (k : Int) l _ hk1 hl60).mono ?_
        rintro e w2 ⟨rfl, hu2⟩
        exact hKK.out _ hu2
      simp only [Act.put, List.setIfInBounds_toArray, List.set_cons_zero, List.set_cons_succ, Nat.reduceAdd]
      (apply Rg.RK.gok (t := 58); (· intro vs w1 hS; go_simp; rw [if_neg (by simp [tx_size, cc_length]; omega), tx_append]); (· rfl); (· intro vs; rfl); simp only [Act.put, List.setIfInBounds_toArray, List.set_cons_zero, List.set_cons_succ, Nat.reduceAdd])
      iterate 1 (apply Rg.RK.gok (t := 58); (· intro vs w1 hS; go_simp; with_reducible rfl); (· rfl); (· intro vs; rfl); simp only [Act.put, List.setIfInBounds_toArray, List.set_cons_zero, List.set_cons_succ, Nat.reduceAdd])
      iterate 2 (apply Rg.RK.ok; (· intro vs w1 hS; go_simp; with_reducible rfl); (· rfl); simp only [Act.put, List.setIfInBounds_toArray, List.set_cons_zero, List.set_cons_succ, Nat.reduceAdd])
      iterate 2 (apply Rg.RK.gok (t := 70); (· intro vs w1 hS; go_simp; with_reducible rfl); (· rfl); (· intro vs; rfl); simp only [Act.put, List.setIfInBounds_toArray, List.set_cons_zero, List.set_cons_succ, Nat.reduceAdd])
      iterate 2 (apply Rg.RK.ok; (· intro vs w1 hS; go_simp; with_reducible rfl); (· rfl); simp only [Act.put, List.setIfInBounds_toArray, List.set_cons_zero, List.set_cons_succ, Nat.reduceAdd])
      iterate 3 (apply Rg.RK.gok (t := 74); (· intro vs w1 hS; go_simp; with_reducible rfl); (· rfl); (· intro vs; rfl); simp only [Act.put, List.setIfInBounds_toArray, List.set_cons_zero, List.set_cons_succ, Nat.reduceAdd])
      iterate 2 (apply Rg.RK.ok; (· intro vs w1 hS; go_simp; with_reducible rfl); (· rfl); simp only [Act.put, List.setIfInBounds_toArray, List.set_cons_zero, List.set_cons_succ, Nat.reduceAdd])
      iterate 1 (apply Rg.RK.gok (t := 79); (· intro vs w1 hS; go_simp; with_reducible rfl); (· rfl); (· intro vs; rfl); simp only [Act.put, List.setIfInBounds_toArray, List.set_cons_zero, List.set_cons_succ, Nat.reduceAdd])
      apply Rg.RK.gok (t := 79) (v := .string (tx (l)))
      · intro vs w1 hS
        exact exec_str rfl rfl (hy.up hS)
      · rfl
      · intro vs; rfl
      simp only [Act.put, List.setIfInBounds_toArray, List.set_cons_zero, List.set_cons_succ, Nat.reduceAdd]
      iterate 1 (apply Rg.RK.gok (t := 79); (· intro vs w1 hS; go_simp; with_reducible rfl); (· rfl); (· intro vs; rfl); simp only [Act.put, List.setIfInBounds_toArray, List.set_cons_zero, List.set_cons_succ, Nat.reduceAdd])
      apply Rg.RK.gok (t := 79) (v := .string (tx (l)))
      · intro vs w1 hS
        exact exec_str rfl rfl (hb2.up hS)
      · rfl
      · intro vs; rfl
      simp only [Act.put, List.setIfInBounds_toArray, List.set_cons_zero, List.set_cons_succ, Nat.reduceAdd]
      iterate 1 (apply Rg.RK.gok (t := 79); (· intro vs w1 hS; go_simp; with_reducible rfl); (· rfl); (· intro vs; rfl); simp only [Act.put, List.setIfInBounds_toArray, List.set_cons_zero, List.set_cons_succ, Nat.reduceAdd])
      iterate 2 (apply Rg.RK.ok; (· intro vs w1 hS; go_simp; with_reducible rfl); (· rfl); simp only [Act.put, List.setIfInBounds_toArray, List.set_cons_zero, List.set_cons_succ, Nat.reduceAdd])
      iterate 4 (apply Rg.RK.gok (t := 86); (· intro vs w1 hS; go_simp; with_reducible rfl); (· rfl); (· intro vs; rfl); simp only [Act.put, List.setIfInBounds_toArray, List.set_cons_zero, List.set_cons_succ, Nat.reduceAdd])
      iterate 2 (apply Rg.RK.ok; (· intro vs w1 hS; go_simp; with_reducible rfl); (· rfl); simp only [Act.put, List.setIfInBounds_toArray, List.set_cons_zero, List.set_cons_succ, Nat.reduceAdd])
      apply Rg.RK.gcall (t := 92) (.bool true) []
      · rfl
      · intro vs; rfl
      · intro vs w1 hK hS _ K hKK
        go_simp
        refine (awake3_any _).mono ?_
        rintro e w2 ⟨rfl, hu2⟩
        exact hKK.out _ hu2
      simp only [Act.put, List.setIfInBounds_toArray, List.set_cons_zero, List.set_cons_succ, Nat.reduceAdd]
      iterate 2 (apply Rg.RK.ok; (· intro vs w1 hS; go_simp; with_reducible rfl); (· rfl); simp only [Act.put, List.setIfInBounds_toArray, List.set_cons_zero, List.set_cons_succ, Nat.reduceAdd])
      apply Rg.RK.fin []
      intro vs w1 hK hS _
      refine hQN.out _ _ ?_
      clear hQN
      go_wp2_with fail
      go_ret
      exact ⟨rfl, hu12.trans (keeps_up hK)⟩
    · kernel_rfl
  · have hL : putL b kind l = [] := by unfold putL; rw [hlm, if_neg hE]
    have HL := Lib.hid hL
    have hf := fun W => frameok_any kind m W (by omega)
    have HF := Lib.hid hf
    have HLM := Lib.hid hlm
    clear hL hf hlm
    go_enter Try.func3, Try.ntmps3
    go_wp2_with fail
    refine (put_any A n c b kind B m d l w hr hb (by omega) (by omega)).mono ?_
    rintro e w1 ⟨A1, n1, c1, rfl, ho1, hu1⟩
    rw [HL.out] at ho1
    rw [HLM.out]
    have hn1 : n1 = 0 := ho1.len
    subst hn1
    clear ho1
    generalize putE kind m = E at *
    have hE0 : ¬ (E : Int) = 0 := by omega
    go_wp2_with fail
    refine (HF.out w1).mono ?_
    rintro e w2 ⟨rfl, rfl⟩
    go_wp2_with (go_at_call 9; with_reducible refine (awake3_any _).mono ?_; rintro e w4 ⟨rfl, hu4⟩)
    go_ret
    exact ⟨rfl, hu1.trans hu4⟩
end Go.Proofs.Ytkapaklikgckgaa.framePuts
