/-
  Plain law: the edit that was put in bytes is read.
-/
import Derived.Test.YtokcaoaclheiiaaEditW13
import Derived.Test.YtokcaoaclheiiaaEditW9
namespace Go.Proofs.Ytokcaoaclheiiaa
open Go.RowKit
set_option linter.unusedVariables false

theorem rtk_numB {most x : Nat} (r : List UInt8) (hx : x ≤ most) (hm : most < 18446744073709551616) : rtk most (numB x ++ r) true = (x, r, true) := by
  unfold rtk
  have h := takeL_numB x r (by omega)
  rw [h]
  simp [hx]
theorem fileOk_b {f : Fl} (h : fileOk f = true) : 0 ≤ f.1 ∧ f.1 ≤ 3 ∧ 1 ≤ f.2 ∧ f.2 ≤ 1073741824 := by
  simp only [fileOk, numOk, Bool.and_eq_true, decide_eq_true_eq] at h
  omega
theorem rfiles_files (add : List Fl) (r : List UInt8) (hall : ∀ f ∈ add, fileOk f = true) : ∀ k, k ≤ add.length → rfiles k (filesB add ++ r, true) = (add.take k, (filesB (add.drop k) ++ r, true))
  | 0, _ => by simp [rfiles]
  | k + 1, hk => by
    have ih := rfiles_files add r hall k (by omega)
    have hkl : k < add.length := by omega
    have hb := fileOk_b (hall (add[k]) (List.getElem_mem hkl))
    have hd : add.drop k = add[k] :: add.drop (k + 1) := List.drop_eq_getElem_cons hkl
    have e1 : filesB (add.drop k) ++ r = numB (add[k]).1.toNat ++ (numB (add[k]).2.toNat ++ (filesB (add.drop (k + 1)) ++ r)) := by
      rw [hd]
      simp only [filesB, List.flatMap_cons, List.append_assoc]
    have e2 : rtk 3 (filesB (add.drop k) ++ r) true = ((add[k]).1.toNat, numB (add[k]).2.toNat ++ (filesB (add.drop (k + 1)) ++ r), true) := by
      rw [e1]; exact rtk_numB _ (by omega) (by decide)
    have e3 : rtk 1073741824 (numB (add[k]).2.toNat ++ (filesB (add.drop (k + 1)) ++ r)) true = ((add[k]).2.toNat, filesB (add.drop (k + 1)) ++ r, true) := rtk_numB _ (by omega) (by decide)
    simp only [rfiles, ih, e2, e3]
    rw [List.take_succ_eq_append_getElem hkl]
    have e4 : (((add[k]).1.toNat : Int), ((add[k]).2.toNat : Int)) = add[k] := by
      apply Prod.ext
      · show ((add[k]).1.toNat : Int) = _; omega
      · show ((add[k]).2.toNat : Int) = _; omega
    rw [e4]
theorem dq_min (ds : List Int) (hall : ∀ x ∈ ds, numOk x = true) : (dq ds).map minD = ds := by
  unfold dq
  rw [List.map_map]
  conv => rhs; rw [← List.map_id' ds]
  apply List.map_congr_left
  intro x hx
  have h := hall x hx
  simp only [numOk, decide_eq_true_eq] at h
  show ((capN (UInt64.ofNat x.toNat).toNat : Nat) : Int) = x
  have e : (UInt64.ofNat x.toNat).toNat = x.toNat := by
    rw [UInt64.toNat_ofNat_of_lt']; show x.toNat < 18446744073709551616; omega
  rw [e]
  unfold capN
  rw [if_neg (by omega)]
  omega
theorem readE_editB {ds : List Int} {add : List Fl} {lg : Int} {f ce at_ le : Nat} (hm : mayE ds add lg f ce at_ le = true) : readE (editB ds add lg f ce at_ le) = some (ds, add, lg, f, ce, at_, le) := by
  have hm0 := hm
  simp only [mayE, Bool.and_eq_true, decide_eq_true_eq, List.all_cons, List.all_nil, verOk, Bool.and_true] at hm
  obtain ⟨m1, m2, m3, m4, ⟨m5a, m5b, m5c, m5d⟩, m6, m7⟩ := hm
  have h1 : unlistL (editB ds add lg f ce at_ le) 40 = (dq ds, (listB (dq ds)).length, 0) := by
    have h := unlist_full (dq ds) (numB add.length ++ (filesB add ++ numsL [lg.toNat, f, ce, at_, le])) 40 (by rw [dq_len]; omega) (by rw [dq_len]; omega)
    unfold editB
    rw [List.append_assoc, List.append_assoc]
    exact h
  have h2 : (editB ds add lg f ce at_ le).drop (listB (dq ds)).length = numB add.length ++ (filesB add ++ numsL [lg.toNat, f, ce, at_, le]) := by
    unfold editB
    rw [List.append_assoc, List.append_assoc, List.drop_left]
  have h3 : rtk 40 ((editB ds add lg f ce at_ le).drop (listB (dq ds)).length) true = (add.length, (filesB add ++ numsL [lg.toNat, f, ce, at_, le]), true) := by
    rw [h2]; exact rtk_numB _ m2 (by decide)
  have h4 : rfiles add.length (filesB add ++ numsL [lg.toNat, f, ce, at_, le], true) = (add, (numsL [lg.toNat, f, ce, at_, le], true)) := by
    have h := rfiles_files add (numsL [lg.toNat, f, ce, at_, le]) (List.all_eq_true.1 m7) add.length (Nat.le_refl _)
    rw [h]
    simp [filesB]
  have n0 : numsL [lg.toNat, f, ce, at_, le] = numB lg.toNat ++ (numB f ++ (numB ce ++ (numB at_ ++ (numB le ++ [])))) := by simp [numsL]
  have h5 : rtk 1073741824 (numsL [lg.toNat, f, ce, at_, le]) true = (lg.toNat, numB f ++ (numB ce ++ (numB at_ ++ (numB le ++ []))), true) := by rw [n0]; exact rtk_numB _ (by omega) (by decide)
  have h6 := rtk_numB (most := 281474976710656) (x := f) (numB ce ++ (numB at_ ++ (numB le ++ []))) (by omega) (by decide)
  have h7 := rtk_numB (most := 281474976710656) (x := ce) (numB at_ ++ (numB le ++ [])) (by omega) (by decide)
  have h8 := rtk_numB (most := 281474976710656) (x := at_) (numB le ++ []) (by omega) (by decide)
  have h9 := rtk_numB (most := 281474976710656) (x := le) [] (by omega) (by decide)
  have hl : ((lg.toNat : Nat) : Int) = lg := by omega
  unfold readE
  simp only [h1, h3, h4, h5, h6, h7, h8, h9, dq_min ds (List.all_eq_true.1 m6), hl, hm0]
  simp
end Go.Proofs.Ytokcaoaclheiiaa
