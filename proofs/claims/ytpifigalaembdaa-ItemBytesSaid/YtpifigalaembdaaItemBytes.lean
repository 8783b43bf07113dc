/-
  The law ItemBytes: the walk.
-/
import Derived.Test.YtpifigalaembdaaItemLaw
import Derived.Test.YtpifigalaembdaaItemW10
import Derived.Test.YtpifigalaembdaaItemW6
import Derived.Test.YtpifigalaembdaaItemW9
import Derived.Test.YtpifigalaembdaaOpenI
import Derived.Test.YtpifigalaembdaaTx
namespace Go.Proofs.Ytpifigalaembdaa.itemBytes
open Go.RowKit
set_option linter.unusedVariables false
set_option linter.unusedSimpArgs false

theorem itsL_len : ∀ (k : Nat) (acc : List It) (l : List UInt8), (itsL k acc l).2.1.length ≤ acc.length + k
  | 0, acc, l => by simp [itsL]
  | k + 1, acc, l => by
    unfold itsL; split
    · have := itsL_len k (acc ++ [(oneL l).2.1]) (oneL l).2.2
      rw [List.length_append, List.length_singleton] at this; omega
    · simp
theorem readL_len (l : List UInt8) : (readL l).2.length ≤ 2000 := by
  unfold readL
  split
  · simp
  · split
    · simp
    · split
      · simp
      · split
        · have := itsL_len (takeL l).1 [] (l.drop (takeL l).2.1)
          simp only [List.length_nil] at this ⊢; omega
        · simp

set_option maxRecDepth 100000 in
set_option maxHeartbeats 800000 in
theorem law_any (A : Option Addr) (n c : Nat) (bs : List UInt8) (Q : Option Addr) (m d : Nat) (l : List It) (C : Option Addr) (k e : Nat) (cs : List UInt8) (w : World) (i0 : IsB w A n c bs) (i1 : IsI w Q m d l) (i2 : IsB w C k e cs) :
    Calls Try.prog 8 #[.slice A n c, .slice Q m d, .slice C k e] w fun e w' => e = .returned (.bool true) ∧ Up w w' := by
  obtain ⟨hb, hnc, -⟩ := i0
  obtain ⟨hq, hmd, hdm⟩ := i1
  obtain ⟨hc, hke, -⟩ := i2
  have HN := Lib.hid hb.blen
  have HM := Lib.hid hq.ilen
  have HK := Lib.hid hc.blen
  by_cases g0 : 500 < n
  · have d0 : decide (500 < (n : Int)) = true := by simp; omega
    go_enter Try.func8, Try.ntmps8
    go_wp2_with (go_at_call 11; with_reducible refine (awake5_any _).mono ?_; rintro e w4 ⟨rfl, hu4⟩)
    go_ret
    exact ⟨rfl, hu4⟩
  have d0 : decide (500 < (n : Int)) = false := by simp; omega
  by_cases g1 : 300 < m
  · have d1 : decide (300 < (m : Int)) = true := by simp; omega
    go_enter Try.func8, Try.ntmps8
    go_wp2_with (go_at_call 11; with_reducible refine (awake5_any _).mono ?_; rintro e w4 ⟨rfl, hu4⟩)
    go_ret
    exact ⟨rfl, hu4⟩
  have d1 : decide (300 < (m : Int)) = false := by simp; omega
  by_cases g2 : 3000 < k
  · have d2 : decide (3000 < (k : Int)) = true := by simp; omega
    go_enter Try.func8, Try.ntmps8
    go_wp2_with (go_at_call 11; with_reducible refine (awake5_any _).mono ?_; rintro e w4 ⟨rfl, hu4⟩)
    go_ret
    exact ⟨rfl, hu4⟩
  have d2 : decide (3000 < (k : Int)) = false := by simp; omega
  have hlen := readL_len cs
  have hmay := fun W hW => may_any Q m d l W hW (by omega)
  by_cases he : bytesE l = 0
  · have hP : bytesL bs l = bs ++ itemsB l := bytesL_yes he
    have hrd : readL (itemsB l) = (0, l) := by
      have := readL_row [] he
      rw [List.append_nil] at this
      rw [this]; rfl
    rw [he] at hmay
    have HY := Lib.hid hmay
    have HP := Lib.hid hP
    have HR := Lib.hid hrd
    have HE := Lib.hid he
    have bP : ((tx (bs ++ itemsB l)).toList == (tx (cc bs (itemsB l))).toList) = true := tx_beq rfl
    have hdrop : (bs ++ itemsB l).drop n = itemsB l := by rw [HN.out, List.drop_left]
    have HD := Lib.hid hdrop
    have hbl : (bs ++ itemsB l).length = n + (itemsB l).length := by rw [List.length_append, HN.out]
    have HBL := Lib.hid hbl
    have hil : (itemsB l).length ≤ 100000 := by
      have h1 := numB_ten (n := l.length) (by have := HM.out; omega)
      have h2 : ∀ l : List It, (l.flatMap itB).length ≤ 32 * l.length := by
        intro l
        induction l with
        | nil => simp
        | cons a l ih => have := itB_len a; simp only [List.flatMap_cons, List.length_append, List.length_cons]; omega
      have := h2 l
      have := HM.out
      simp only [itemsB, List.length_append]; omega
    clear hmay hP hrd he hdrop hbl
    go_enter Try.func8, Try.ntmps8
    go_wp2_with fail
    refine (bytes_any A n c bs Q m d l w hb hq (by omega) (by omega)).mono ?_
    rintro e1 w1 ⟨A1, n1, c1, rfl, ho1, hu1⟩
    rw [HE.out]
    rw [HP.out] at ho1
    have hn1 : n1 = n + (itemsB l).length := by rw [ho1.len, HBL.out]
    generalize hIB : itemsB l = L at *
    have HIB := Lib.hid hIB
    generalize hz : L.length = z at *
    have HZ := Lib.hid hz
    clear hIB hz
    subst hn1
    have hc1 := ho1.cap
    have hx := ho1.rd
    clear ho1
    go_wp2_with fail
    refine (HY.out w1 (hq.up hu1)).mono ?_
    rintro e2 w2 ⟨rfl, hu2⟩
    have hu12 := hu1.trans hu2
    have hx2 := hx.up hu2
    have hb2 := hb.up hu12
    have hq2 := hq.up hu12
    clear hx
    generalize hPP : bs ++ L = P at *
    clear hPP
    have hbs : bs.length ≤ 500 := by have := HN.out; omega
    have hLz : L.length ≤ 100000 := by have := HZ.out; omega
    go_wp2_with fail
    apply Rg.region_up (fun W => Up w2 W) (by kernel_rfl) (by kernel_rfl) (fun w1 h => h)
    · intro QN hQN
      iterate 1 (apply Rg.RK.ok; (· intro vs w1 hS; go_simp; with_reducible rfl); (· rfl); simp only [Act.put, List.setIfInBounds_toArray, List.set_cons_zero, List.set_cons_succ, Nat.reduceAdd])
      apply Rg.RK.ok (v := .string (tx (P)))
      · intro vs w1 hS
        exact exec_str rfl rfl (hx2.up hS)
      · rfl
      simp only [Act.put, List.setIfInBounds_toArray, List.set_cons_zero, List.set_cons_succ, Nat.reduceAdd]
      iterate 1 (apply Rg.RK.ok; (· intro vs w1 hS; go_simp; with_reducible rfl); (· rfl); simp only [Act.put, List.setIfInBounds_toArray, List.set_cons_zero, List.set_cons_succ, Nat.reduceAdd])
      apply Rg.RK.ok (v := .string (tx (bs)))
      · intro vs w1 hS
        exact exec_str rfl rfl (hb2.up hS)
      · rfl
      simp only [Act.put, List.setIfInBounds_toArray, List.set_cons_zero, List.set_cons_succ, Nat.reduceAdd]
      iterate 1 (apply Rg.RK.ok; (· intro vs w1 hS; go_simp; with_reducible rfl); (· rfl); simp only [Act.put, List.setIfInBounds_toArray, List.set_cons_zero, List.set_cons_succ, Nat.reduceAdd])
      apply Rg.RK.call (.string (tx (L))) []
      · rfl
      · intro vs w1 hK hS _ K hKK
        go_simp
        refine (HIB.out ▸ rbytes_any Q m d l _ (hq2.up hS) (by omega)).mono ?_
        rintro e w2 ⟨s1, rfl, hs1, hu1⟩
        rw [tx_of hs1.out]
        exact hKK.out _ hu1
      simp only [Act.put, List.setIfInBounds_toArray, List.set_cons_zero, List.set_cons_succ, Nat.reduceAdd]
      (apply Rg.RK.ok; (· intro vs w1 hS; go_simp; rw [if_neg (by simp [tx_size, cc_length]; omega), tx_append]); (· rfl); simp only [Act.put, List.setIfInBounds_toArray, List.set_cons_zero, List.set_cons_succ, Nat.reduceAdd])
      iterate 1 (apply Rg.RK.ok; (· intro vs w1 hS; go_simp; with_reducible rfl); (· rfl); simp only [Act.put, List.setIfInBounds_toArray, List.set_cons_zero, List.set_cons_succ, Nat.reduceAdd])
      apply Rg.RK.fin []
      intro vs w1 hK hS _
      refine hQN.out _ _ ?_
      clear hQN
      have hu3 := hu12.trans (keeps_up hK)
      have hx3 := hx2.up (keeps_up hK)
      have hq3 := hq.up hu3
      have hd3 := hx3.bfrom (k := n) (cap := c1) (by omega) hc1
      rw [HD.out, Nat.add_sub_cancel_left] at hd3
      have hc9 : z ≤ c1 - n := by omega
      have CUT9 : ∀ W : World, (Instr.slice 31 (.slice A1 (n + z) c1) (some (.int .i64 (n : Int))) none none).run Try.prog W = .ok (.slice (cutA A1 c1 n 1) z (c1 - n)) W := fun W => by
        have h := cut_from_b W A1 (n + z) c1 .i64 (n : Int) (by omega) (by omega)
        rw [Int.toNat_natCast, Nat.add_sub_cancel_left] at h
        exact h
      generalize cutA A1 c1 n 1 = A9 at *
      generalize c1 - n = c9 at *
      have q1 : (n : Int) ≤ ((n + z : Nat) : Int) := by omega
      have q2 : n ≤ n + z := by omega
      clear hK hS hx2 hb2 hq2 bP
      go_wp2_with fail
      refine (read_any A9 z c9 _ w1 hd3 (by omega) hc9).mono ?_
      rintro e3 w3 ⟨A3, n3, c3, rfl, ho3, hu4⟩
      rw [HR.out] at ho3 ⊢
      have hn3 : m = n3 := by rw [ho3.len]; exact HM.out
      subst hn3
      have hr3 := ho3.rd
      have hq4 := hq3.up hu4
      have hu04 := hu3.trans hu4
      clear ho3 hd3 hx3 CUT9
      go_wp2_with (go_at_call 28; with_reducible refine (equal_any _ _ _ _ _ _ _ _ hr3 hq4 (by omega)).mono ?_; rintro e4 w4 ⟨rfl, hu5⟩)
      have hu14 := hu04.trans hu5
      clear hr3 hq4 hu04 hq3
      have hcW := hc.up hu14
      go_wp2_with fail
      refine (read_any C k e cs w4 hcW (by omega) hke).mono ?_
      rintro e5 w5 ⟨A5, n5, c5, rfl, ho5, hu5⟩
      have hc5 := hcW.up hu5
      have hcv5 : (convert 31 9 (.slice C k e)).run Try.prog w5 = .ok (.string (tx cs)) w5 := run_str e hc5
      go_wp2_with fail
      refine (rread_any cs w5 (by have := HK.out; omega)).mono ?_
      rintro e6 w6 ⟨A6, n6, c6, rfl, ho6, hu6⟩
      have hn5 : n5 ≤ 2000 := by have := ho5.len; omega
      have hr5 := ho5.rd.up hu6
      have hr6 := ho6.rd
      have hu56 := ((hu14).trans hu5).trans hu6
      clear ho5 ho6 hcW hc5 hcv5
      generalize (readL cs).1 = EE at *
      go_wp2_with (first
        | (go_at_call 28; with_reducible refine (equal_any _ _ _ _ _ _ _ _ hr5 hr6 (by omega)).mono ?_; rintro e7 w7 ⟨rfl, hu7⟩)
        | (go_at_call 11; with_reducible refine (awake5_any _).mono ?_; rintro e8 w8 ⟨rfl, hu8⟩))
      go_ret
      exact ⟨rfl, (hu56.trans hu7).trans hu8⟩
    · kernel_rfl
  · have hP : bytesL bs l = [] := bytesL_no he
    have HP := Lib.hid hP
    have HY := Lib.hid hmay
    clear hmay hP
    go_enter Try.func8, Try.ntmps8
    go_wp2_with fail
    refine (bytes_any A n c bs Q m d l w hb hq (by omega) (by omega)).mono ?_
    rintro e1 w1 ⟨A1, n1, c1, rfl, ho1, hu1⟩
    rw [HP.out] at ho1
    have hn1 : n1 = 0 := ho1.len
    subst hn1
    clear ho1
    go_wp2_with fail
    refine (HY.out w1 (hq.up hu1)).mono ?_
    rintro e2 w2 ⟨rfl, hu2⟩
    have hu12 := hu1.trans hu2
    generalize bytesE l = E at *
    have hE0 : ¬ (E : Int) = 0 := by omega
    have hE1 : ((E : Int) == 0) = false := by rw [beq_eq_false_iff_ne]; exact hE0
    have hcW := hc.up hu12
    go_wp2_with fail
    refine (read_any C k e cs w2 hcW (by omega) hke).mono ?_
    rintro e5 w5 ⟨A5, n5, c5, rfl, ho5, hu5⟩
    have hc5 := hcW.up hu5
    have hcv5 : (convert 31 9 (.slice C k e)).run Try.prog w5 = .ok (.string (tx cs)) w5 := run_str e hc5
    go_wp2_with fail
    refine (rread_any cs w5 (by have := HK.out; omega)).mono ?_
    rintro e6 w6 ⟨A6, n6, c6, rfl, ho6, hu6⟩
    have hn5 : n5 ≤ 2000 := by have := ho5.len; omega
    have hr5 := ho5.rd.up hu6
    have hr6 := ho6.rd
    have hu56 := ((hu12).trans hu5).trans hu6
    clear ho5 ho6 hcW hc5 hcv5
    generalize (readL cs).1 = EE at *
    go_wp2_with (first
      | (go_at_call 28; with_reducible refine (equal_any _ _ _ _ _ _ _ _ hr5 hr6 (by omega)).mono ?_; rintro e7 w7 ⟨rfl, hu7⟩)
      | (go_at_call 11; with_reducible refine (awake5_any _).mono ?_; rintro e8 w8 ⟨rfl, hu8⟩))
    go_ret
    exact ⟨rfl, (hu56.trans hu7).trans hu8⟩
end Go.Proofs.Ytpifigalaembdaa.itemBytes
