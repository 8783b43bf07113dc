/-
  Files as plain data, and as cells.
-/
import Derived.Test.YtokcaoaclheiiaaOpenE
import Derived.Test.YtokcaoaclheiiaaRegion
import Derived.Test.YtokcaoaclheiiaaTx
namespace Go.Proofs.Ytokcaoaclheiiaa
open Go.RowKit
set_option linter.unusedVariables false
set_option linter.unusedSimpArgs false

/-- a file: its level, its number -/
abbrev Fl := Int × Int
def flc (f : Fl) : List Value := [.int .i64 f.1, .int .i64 f.2]
def fvs (l : List Fl) : List Value := l.flatMap flc
theorem flc_len (f : Fl) : (flc f).length = 2 := rfl
theorem fvs_length (l : List Fl) : (fvs l).length = l.length * 2 := flat_len flc flc_len l
theorem fvs_append (a b : List Fl) : fvs (a ++ b) = fvs a ++ fvs b := by simp [fvs]
theorem fvs_one (l : List Fl) : ∀ u ∈ fvs l, u.oneCell' = true := by
  intro u hu
  simp only [fvs, List.mem_flatMap] at hu
  obtain ⟨i, _, h⟩ := hu
  simp only [flc, List.mem_cons, List.not_mem_nil, or_false] at h
  rcases h with rfl | rfl <;> rfl
theorem fvs_take (l : List Fl) (k : Nat) : (fvs l).take (k * 2) = fvs (l.take k) := by
  induction l generalizing k with
  | nil => simp [fvs]
  | cons x l ih =>
    cases k with
    | zero => simp [fvs]
    | succ k =>
      have := ih k
      simp only [fvs, List.flatMap_cons, List.take_succ_cons] at this ⊢
      rw [← this, List.take_append, List.take_of_length_le (by simp [flc]; omega), flc_len, show (k + 1) * 2 - 2 = k * 2 by omega]
theorem fvs_drop (l : List Fl) (k : Nat) : (fvs l).drop (k * 2) = fvs (l.drop k) := by
  induction l generalizing k with
  | nil => simp [fvs]
  | cons x l ih =>
    cases k with
    | zero => simp [fvs]
    | succ k =>
      have := ih k
      simp only [fvs, List.flatMap_cons, List.drop_succ_cons] at this ⊢
      rw [← this, List.drop_append, List.drop_of_length_le (by simp [flc]; omega), flc_len, show (k + 1) * 2 - 2 = k * 2 by omega, List.nil_append]
theorem Rd.flen {w : World} {B n : Nat} {A : Option Addr} {l : List Fl} (h : Rd w B 2 A n (fvs l)) : n = l.length := by have := h.1; rw [fvs_length] at this; omega
/-- the cells of a slice's file k -/
theorem Rd.file_at {w : World} {B n : Nat} {A : Option Addr} {l : List Fl} (h : Rd w B 2 A n (fvs l)) {k : Nat} (hk : k < n) :
    ∃ b o f, A = some ⟨b, o, none⟩ ∧ b < B ∧ l[k]? = some f ∧ w.cell? ⟨b, o + k * 2, none⟩ = some (.int .i64 f.1) ∧ w.cell? ⟨b, o + k * 2 + 1, none⟩ = some (.int .i64 f.2) := by
  have hl := h.flen
  obtain ⟨b, o, e, hb, hc⟩ := h.2 (by omega)
  have hkl : k < l.length := by omega
  have got : ∀ j u, j < 2 → (flc l[k])[j]? = some u → w.cell? ⟨b, o + k * 2 + j, none⟩ = some u := fun j u hj hu => by
    rw [Nat.add_assoc]
    exact hc _ _ ((flat_at flc flc_len l hkl hj).trans hu)
  exact ⟨b, o, l[k], e, hb, List.getElem?_eq_getElem hkl, got 0 _ (by omega) rfl, got 1 _ (by omega) rfl⟩
theorem Rd.fto {w : World} {B n : Nat} {A : Option Addr} {l : List Fl} (h : Rd w B 2 A n (fvs l)) {k : Nat} (hk : k ≤ n) : Rd w B 2 A k (fvs (l.take k)) := by
  have := h.to_ hk
  rwa [fvs_take] at this

/-- the first of a row that is such -/
def ixI {α : Type} (p : α → Bool) (l : List α) : Int := if l.findIdx p < l.length then (l.findIdx p : Int) else -1
theorem ixI_hit {α : Type} {p : α → Bool} {l : List α} {k : Nat} (hk : k < l.length) (h1 : ∀ j (hj : j < k), p (l[j]'(by omega)) = false) (h2 : p l[k] = true) : ixI p l = (k : Int) := by
  have : l.findIdx p = k := by
    rw [List.findIdx_eq hk]
    exact ⟨h2, fun j hj => h1 j hj⟩
  unfold ixI
  rw [this, if_pos hk]
theorem ixI_miss {α : Type} {p : α → Bool} {l : List α} (h : ∀ j (hj : j < l.length), p l[j] = false) : ixI p l = -1 := by
  unfold ixI
  rw [if_neg]
  intro hlt
  have := List.findIdx_getElem (w := hlt)
  rw [h] at this
  cases this
theorem ixI_any {α : Type} (p : α → Bool) (l : List α) : decide (0 ≤ ixI p l) = l.any p := by
  unfold ixI
  by_cases h : l.findIdx p < l.length
  · rw [if_pos h]
    have := List.findIdx_getElem (w := h)
    have h2 : l.any p = true := by rw [List.any_eq_true]; exact ⟨_, List.getElem_mem h, this⟩
    rw [h2]; simp
  · rw [if_neg h]
    have h2 : l.any p = false := by
      rw [List.any_eq_false]
      intro x hx hp
      exact h (List.findIdx_lt_length_of_exists ⟨x, hx, hp⟩)
    rw [h2]; rfl
end Go.Proofs.Ytokcaoaclheiiaa
