/-
  Plain laws of items' bytes.
-/
import Derived.Test.YtnbdijifhimogaaItemW8
import Derived.Test.YtnbdijifhimogaaNumLaw
namespace Go.Proofs.Ytnbdijifhimogaa
open Go.RowKit
set_option linter.unusedVariables false
set_option linter.unusedSimpArgs false

theorem ok_bd {i : It} (h : okB i = true) : 0 ≤ i.s.toInt ∧ i.s.toInt ≤ 255 ∧ 1 ≤ i.k.toInt ∧ i.k.toInt ≤ 2 := by
  simp only [okB, okZ, decide_eq_true_eq] at h; omega
theorem byteOf_val {z : Int} (h0 : 0 ≤ z) (h1 : z ≤ 255) : ((byteOf z).toNat : Int) = z := by
  unfold byteOf; simp; omega
theorem takesL_ok {k : Nat} {acc : List Nat} {x : Nat} {r : List UInt8} (hx : x < 18446744073709551616) : takesL (k + 1) acc (numB x ++ r) = takesL k (acc ++ [x]) r := by
  conv => lhs; unfold takesL
  rw [takeL_numB x r hx, if_pos rfl]
  simp
theorem mkIt_self {i : It} (h : okB i = true) : mkIt (byteOf i.s.toInt).toNat (byteOf i.k.toInt).toNat i.t.toNat i.v.toNat (signN i.x.toInt) = i := by
  obtain ⟨a1, a2, a3, a4⟩ := ok_bd h
  have s1 := byteOf_val a1 a2
  have k1 := byteOf_val (z := i.k.toInt) (by omega) (by omega)
  have hx : unsignZ (signN i.x.toInt) = i.x.toInt := unsign_sign _
  unfold mkIt
  rw [s1, k1, hx]
  simp
theorem oneL_it {i : It} (r : List UInt8) (h : okB i = true) : oneL (itB i ++ r) = (0, i, r) := by
  have hl : ¬ (itB i ++ r).length < 2 := by simp [itB]
  have hd : (itB i ++ r).drop 2 = numB i.t.toNat ++ (numB i.v.toNat ++ (numB (signN i.x.toInt) ++ r)) := by simp [itB]
  have h0 : (itB i ++ r).getD 0 0 = byteOf i.s.toInt := by simp [itB]
  have h1 : (itB i ++ r).getD 1 0 = byteOf i.k.toInt := by simp [itB]
  have ht : takesL 3 [] ((itB i ++ r).drop 2) = (0, [i.t.toNat, i.v.toNat, signN i.x.toInt], r) := by
    rw [hd, takesL_ok i.t.toNat_lt, takesL_ok i.v.toNat_lt, takesL_ok (signN_lt _ (i64_bd i.x).1 (i64_bd i.x).2)]; rfl
  unfold oneL
  rw [if_neg hl, ht, if_pos rfl, h0, h1]
  simp only [List.getD_cons_zero, List.getD_cons_succ]
  rw [mkIt_self h]
theorem takesL_nil {k : Nat} {acc : List Nat} {l : List UInt8} (h : (takeL l).2.2 ≠ 0) : (takesL (k + 1) acc l).1 ≠ 0 := by
  unfold takesL; rw [if_neg h]; exact h
theorem takes1_cut {x j k : Nat} {acc : List Nat} (hx : x < 18446744073709551616) (hj : j < (numB x).length) : (takesL (k + 1) acc ((numB x).take j)).1 ≠ 0 :=
  takesL_nil (by rw [takeL_cut hx hj]; decide)
theorem takes_step_cut {x j k : Nat} {acc : List Nat} {r : List UInt8} (hx : x < 18446744073709551616) (ih : ∀ j acc, j < r.length → (takesL k acc (r.take j)).1 ≠ 0) (hj : j < (numB x ++ r).length) : (takesL (k + 1) acc ((numB x ++ r).take j)).1 ≠ 0 := by
  by_cases hlt : j < (numB x).length
  · rw [List.take_append_of_le_length (by omega)]
    exact takes1_cut hx hlt
  · rw [List.take_append, List.take_of_length_le (by omega), takesL_ok hx]
    exact ih _ _ (by rw [List.length_append] at hj; omega)
theorem oneL_cut {i : It} {j : Nat} (hj : j < (itB i).length) : (oneL ((itB i).take j)).1 ≠ 0 := by
  unfold oneL
  by_cases h2 : ((itB i).take j).length < 2
  · rw [if_pos h2]; decide
  · rw [if_neg h2]
    have hj2 : 2 ≤ j := by rw [List.length_take] at h2; omega
    have hd : ((itB i).take j).drop 2 = (numB i.t.toNat ++ (numB i.v.toNat ++ numB (signN i.x.toInt))).take (j - 2) := by
      rw [List.drop_take]; rfl
    have hjl : j - 2 < (numB i.t.toNat ++ (numB i.v.toNat ++ numB (signN i.x.toInt))).length := by
      simp only [itB, List.length_cons] at hj; omega
    have hne : (takesL 3 [] (((itB i).take j).drop 2)).1 ≠ 0 := by
      rw [hd]
      refine takes_step_cut i.t.toNat_lt (fun j acc hj => ?_) hjl
      refine takes_step_cut i.v.toNat_lt (fun j acc hj => ?_) hj
      exact takes1_cut (signN_lt _ (i64_bd i.x).1 (i64_bd i.x).2) hj
    rw [if_neg hne]; exact hne
theorem itsL_ok : ∀ (l : List It) (acc : List It) (r : List UInt8), l.all okB = true → itsL l.length acc (l.flatMap itB ++ r) = (0, acc ++ l, r)
  | [], acc, r, _ => by simp [itsL]
  | i :: l, acc, r, h => by
    simp only [List.all_cons, Bool.and_eq_true] at h
    rw [List.length_cons, List.flatMap_cons, List.append_assoc]
    conv => lhs; unfold itsL
    rw [oneL_it _ h.1, if_pos rfl, itsL_ok l _ r h.2]
    simp
theorem itsL_cut : ∀ (l : List It) (acc : List It) (j : Nat), l.all okB = true → j < (l.flatMap itB).length → (itsL l.length acc ((l.flatMap itB).take j)).1 ≠ 0
  | [], _, j, _, hj => by simp at hj
  | i :: l, acc, j, h, hj => by
    simp only [List.all_cons, Bool.and_eq_true] at h
    rw [List.length_cons, List.flatMap_cons]
    by_cases hlt : j < (itB i).length
    · rw [List.take_append_of_le_length (by omega)]
      unfold itsL
      rw [if_neg (oneL_cut hlt)]
      exact oneL_cut hlt
    · rw [List.take_append, List.take_of_length_le (by omega)]
      conv => lhs; unfold itsL
      rw [oneL_it _ h.1, if_pos rfl]
      exact itsL_cut l _ _ h.2 (by rw [List.flatMap_cons, List.length_append] at hj; omega)
theorem may_all {l : List It} (h : bytesE l = 0) : l.length ≤ 2000 ∧ l.all okB = true := by
  unfold bytesE at h
  by_cases h1 : 2000 < l.length
  · rw [if_pos h1] at h; cases h
  · rw [if_neg h1] at h
    refine ⟨by omega, ?_⟩
    cases ha : l.all okB
    · rw [ha] at h; simp at h
    · rfl
theorem readL_row {l : List It} (r : List UInt8) (h : bytesE l = 0) : readL (itemsB l ++ r) = if r.length = 0 then (0, l) else (3, []) := by
  obtain ⟨h1, h2⟩ := may_all h
  have ht := takeL_numB l.length (l.flatMap itB ++ r) (by omega)
  have hi := itsL_ok l [] r h2
  unfold readL
  rw [show itemsB l ++ r = numB l.length ++ (l.flatMap itB ++ r) by simp [itemsB], ht]
  simp only [ne_eq, not_true, if_false, List.drop_left', hi, List.nil_append]
  rw [if_neg (by omega)]
  by_cases hr : r.length = 0
  · rw [if_pos ⟨hr, h2⟩, if_pos hr]
  · rw [if_neg (fun h => hr h.1), if_neg hr]
theorem readL_cut {l : List It} {j : Nat} (h : bytesE l = 0) (hj : j < (itemsB l).length) : (readL ((itemsB l).take j)).1 ≠ 0 := by
  obtain ⟨h1, h2⟩ := may_all h
  unfold readL
  by_cases hlt : j < (numB l.length).length
  · have e : (itemsB l).take j = (numB l.length).take j := by unfold itemsB; rw [List.take_append_of_le_length (by omega)]
    have hn : (takeL ((numB l.length).take j)).2.2 ≠ 0 := by rw [takeL_cut (by omega) hlt]; decide
    rw [e, if_pos hn]; exact hn
  · have e : (itemsB l).take j = numB l.length ++ (l.flatMap itB).take (j - (numB l.length).length) := by
      unfold itemsB; rw [List.take_append, List.take_of_length_le (by omega)]
    have hc := itsL_cut l [] (j - (numB l.length).length) h2 (by unfold itemsB at hj; rw [List.length_append] at hj; omega)
    rw [e, takeL_numB l.length _ (by omega)]
    simp only [ne_eq, not_true, if_false, List.drop_left']
    rw [if_neg (by omega), if_pos hc]
    exact hc
end Go.Proofs.Ytnbdijifhimogaa
