/-
  The walk of sum.Open.
-/
import Derived.Test.YtnbdijifhimogaaFrameW2
import Derived.Test.YtnbdijifhimogaaTx
namespace Go.Proofs.Ytnbdijifhimogaa
open Go.RowKit
set_option linter.unusedVariables false
set_option linter.unusedSimpArgs false

def openE (l : List UInt8) : Nat := if l.length < 4 then 4 else if sealB (l.take (l.length - 4)) = l then 0 else 5
/-- what Open hands back -/
def openL (l : List UInt8) : List UInt8 := if openE l = 0 then l.take (l.length - 4) else []

set_option maxRecDepth 100000 in
set_option maxHeartbeats 1600000 in
theorem open_any (A : Option Addr) (n c : Nat) (l : List UInt8) (w : World) (hr : Rd w w.heap.size 1 A n (bvs l)) (hn : n ≤ 1099511627776) (hc : n ≤ c) :
    Calls Try.prog 42 #[.slice A n c] w fun e w' => ∃ A' n' c', e = .returned (.tuple #[.slice A' n' c', .int .i64 (openE l : Int)]) ∧ OwnB w' w.heap.size A' n' c' (openL l) ∧ Up w w' := by
  have HL := Lib.hid hr.blen
  have nil0 : ∀ w0, OwnB w0 w.heap.size none 0 0 [] := fun w0 => World.ownsRow_nil _ _ _ _
  have NIL := Lib.hid nil0
  clear nil0
  by_cases h4 : n < 4
  · have hE : openE l = 4 := by unfold openE; rw [if_pos (by rw [← HL.out]; exact h4)]
    have hL : openL l = [] := by unfold openL; rw [hE]; rfl
    have HE := Lib.hid hE
    have HO := Lib.hid hL
    clear hE hL
    go_enter Try.func42, Try.ntmps42
    go_wp2_with fail
    go_ret2
    rw [HE.out, HO.out]
    exact ⟨none, 0, 0, rfl, NIL.out _, Up.refl _⟩
  · have hk : n - 4 ≤ n := by omega
    have hrt := hr.bto hk
    have hle : ((n : Int) - 4).toNat = n - 4 := by omega
    have h0 : (0 : Int) ≤ (n : Int) - 4 := by omega
    have h1 : (n : Int) - 4 ≤ c := by omega
    have h2 : (4 : Int) ≤ n := by omega
    have hd : decide ((n : Int) - 4 < 0) = false := by simp; omega
    have hln : l.length - 4 = n - 4 := by rw [HL.out]
    by_cases hq : sealB (l.take (n - 4)) = l
    · have hE : openE l = 0 := by unfold openE; rw [if_neg (by rw [← HL.out]; exact h4), hln, if_pos hq]
      have hL : openL l = l.take (n - 4) := by unfold openL; rw [hE, hln]; rfl
      have HE := Lib.hid hE
      have HO := Lib.hid hL
      have hb := tx_beq hq
      clear hE hL hln hq
      go_enter Try.func42, Try.ntmps42
      go_wp2_with fail
      apply Rg.region_up (fun W => Up w W) (by kernel_rfl) (by kernel_rfl) (fun w1 h => h)
      · intro QN hQN
        iterate 3 (apply Rg.RK.ok; (· intro vs w1 hS; go_simp; with_reducible rfl); (· rfl); simp only [Act.put, List.setIfInBounds_toArray, List.set_cons_zero, List.set_cons_succ, Nat.reduceAdd])
        apply Rg.RK.opn (Sl 1 (bvs (sealB (l.take (n - 4))))) Rg.ob [] []
        · exact fun v W1 W2 h hs => h.sta hs
        · rfl
        · intro vs w1 hK hS hf K hKK
          go_simp
          refine (seal_any A (n - 4) c _ w1 (hrt.up hS) (by omega)).mono ?_
          rintro e w2 ⟨A1, c1, rfl, ho1, hu2⟩
          exact hKK.out _ _ (Sl.own ho1) (Rg.Keeps.of_up hu2) (own_row ho1)
        simp only [Act.put, List.setIfInBounds_toArray, List.set_cons_zero, List.set_cons_succ, Nat.reduceAdd]
        apply Rg.RK.okU [3] (v := .string (tx (sealB (l.take (n - 4)))))
        · intro vs w1 hS hf
          obtain ⟨⟨A1, n1, c1, hv, -, hrd⟩, -⟩ := hf
          exact exec_str rfl hv hrd
        · rfl
        simp only [Act.put, List.setIfInBounds_toArray, List.set_cons_zero, List.set_cons_succ, Nat.reduceAdd]
        (apply Rg.RK.ok; (· intro vs w1 hS; go_simp; with_reducible rfl); (· rfl); simp only [Act.put, List.setIfInBounds_toArray, List.set_cons_zero, List.set_cons_succ, Nat.reduceAdd])
        apply Rg.RK.ok
        · intro vs w1 hS
          exact exec_str rfl rfl (hr.up hS)
        · rfl
        simp only [Act.put, List.setIfInBounds_toArray, List.set_cons_zero, List.set_cons_succ, Nat.reduceAdd]
        apply Rg.RK.ok
        · intro vs w1 hS
          go_simp
          with_reducible rfl
        · rfl
        simp only [Act.put, List.setIfInBounds_toArray, List.set_cons_zero, List.set_cons_succ, Nat.reduceAdd]
        (apply Rg.RK.ok; (· intro vs w1 hS; go_simp; with_reducible rfl); (· rfl); simp only [Act.put, List.setIfInBounds_toArray, List.set_cons_zero, List.set_cons_succ, Nat.reduceAdd])
        apply Rg.RK.fin []
        intro vs w1 hK hS _
        refine hQN.out _ _ ?_
        clear hQN
        have hu := keeps_up hK
        go_wp2_with (at_builtin; refine wpList_append_rd _ bytesT (World.ownsRow_nil _ w.heap.size _ _) (hrt.up hu) (bvs_one _) (by omega) (by omega) hu.size rfl rfl rfl rfl ?_; intro v2 w2 hown2 hg2 hat2; obtain ⟨A2, c2, rfl⟩ := own_form hown2; simp only [Nat.zero_add, List.nil_append] at hown2)
        go_ret2
        rw [HE.out, HO.out]
        exact ⟨A2, n - 4, c2, by simp, hown2, hu.grown hg2 (fun g hg => by simp [Value.ownBlock] at hg)⟩
      · kernel_rfl

    · have hE : openE l = 5 := by unfold openE; rw [if_neg (by rw [← HL.out]; exact h4), hln, if_neg hq]
      have hL : openL l = [] := by unfold openL; rw [hE]; rfl
      have HE := Lib.hid hE
      have HO := Lib.hid hL
      have hb := tx_bne hq
      clear hE hL hln hq
      go_enter Try.func42, Try.ntmps42
      go_wp2_with fail
      apply Rg.region_up (fun W => Up w W) (by kernel_rfl) (by kernel_rfl) (fun w1 h => h)
      · intro QN hQN
        iterate 3 (apply Rg.RK.ok; (· intro vs w1 hS; go_simp; with_reducible rfl); (· rfl); simp only [Act.put, List.setIfInBounds_toArray, List.set_cons_zero, List.set_cons_succ, Nat.reduceAdd])
        apply Rg.RK.opn (Sl 1 (bvs (sealB (l.take (n - 4))))) Rg.ob [] []
        · exact fun v W1 W2 h hs => h.sta hs
        · rfl
        · intro vs w1 hK hS hf K hKK
          go_simp
          refine (seal_any A (n - 4) c _ w1 (hrt.up hS) (by omega)).mono ?_
          rintro e w2 ⟨A1, c1, rfl, ho1, hu2⟩
          exact hKK.out _ _ (Sl.own ho1) (Rg.Keeps.of_up hu2) (own_row ho1)
        simp only [Act.put, List.setIfInBounds_toArray, List.set_cons_zero, List.set_cons_succ, Nat.reduceAdd]
        apply Rg.RK.okU [3] (v := .string (tx (sealB (l.take (n - 4)))))
        · intro vs w1 hS hf
          obtain ⟨⟨A1, n1, c1, hv, -, hrd⟩, -⟩ := hf
          exact exec_str rfl hv hrd
        · rfl
        simp only [Act.put, List.setIfInBounds_toArray, List.set_cons_zero, List.set_cons_succ, Nat.reduceAdd]
        (apply Rg.RK.ok; (· intro vs w1 hS; go_simp; with_reducible rfl); (· rfl); simp only [Act.put, List.setIfInBounds_toArray, List.set_cons_zero, List.set_cons_succ, Nat.reduceAdd])
        apply Rg.RK.ok
        · intro vs w1 hS
          exact exec_str rfl rfl (hr.up hS)
        · rfl
        simp only [Act.put, List.setIfInBounds_toArray, List.set_cons_zero, List.set_cons_succ, Nat.reduceAdd]
        apply Rg.RK.ok
        · intro vs w1 hS
          go_simp
          with_reducible rfl
        · rfl
        simp only [Act.put, List.setIfInBounds_toArray, List.set_cons_zero, List.set_cons_succ, Nat.reduceAdd]
        (apply Rg.RK.ok; (· intro vs w1 hS; go_simp; with_reducible rfl); (· rfl); simp only [Act.put, List.setIfInBounds_toArray, List.set_cons_zero, List.set_cons_succ, Nat.reduceAdd])
        apply Rg.RK.fin []
        intro vs w1 hK hS _
        refine hQN.out _ _ ?_
        clear hQN
        have hu := keeps_up hK
        go_wp2_with fail
        go_ret2
        rw [HE.out, HO.out]
        exact ⟨none, 0, 0, rfl, NIL.out _, hu⟩
      · kernel_rfl

end Go.Proofs.Ytnbdijifhimogaa
