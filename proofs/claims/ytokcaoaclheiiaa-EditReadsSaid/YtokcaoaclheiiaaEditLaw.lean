/-
  Plain laws of views and edits.
-/
import Derived.Test.YtokcaoaclheiiaaEditW4
namespace Go.Proofs.Ytokcaoaclheiiaa
open Go.RowKit
set_option linter.unusedVariables false
set_option linter.unusedSimpArgs false

theorem okTo_iff (l : List Fl) : ∀ k, k ≤ l.length → (okTo l k = true ↔ (∀ x ∈ l.take k, fileOk x = true) ∧ ((l.take k).map fun f => f.2).Nodup)
  | 0, _ => by simp [okTo]
  | k + 1, h => by
    have hk : k < l.length := by omega
    have hg : l.getD k (0, 0) = l[k] := by simp [List.getD, hk]
    rw [okTo_succ, hg, Bool.and_eq_true, Bool.and_eq_true, okTo_iff l k (by omega), List.take_succ_eq_append_getElem hk, List.map_append, List.nodup_append]
    simp only [List.mem_append, List.mem_singleton, List.map_cons, List.map_nil, Bool.not_eq_true', List.any_eq_false, decide_eq_true_eq, List.mem_map]
    constructor
    · rintro ⟨⟨h1, h2⟩, h3, h4⟩
      refine ⟨fun x hx => hx.elim (h1 x) (fun e => e ▸ h3), h2, by simp, ?_⟩
      rintro a ⟨x, hx, rfl⟩ b rfl
      exact h4 x hx
    · rintro ⟨h1, h2, _, h4⟩
      exact ⟨⟨fun x hx => h1 x (.inl hx), h2⟩, h1 _ (.inr rfl), fun x hx => h4 _ ⟨x, hx, rfl⟩ _ rfl⟩
theorem okAll_iff (l : List Fl) : okTo l l.length = true ↔ (∀ x ∈ l, fileOk x = true) ∧ (l.map fun f => f.2).Nodup := by
  have := okTo_iff l l.length (Nat.le_refl _)
  rwa [List.take_length] at this
theorem viewOk_iff (lg : Int) (l : List Fl) (f ce at_ le : Nat) : viewOk lg l f ce at_ le = true ↔ numOk lg = true ∧ l.length ≤ 40 ∧ [f, ce, at_, le].all verOk = true ∧ (∀ x ∈ l, fileOk x = true) ∧ (l.map fun f => f.2).Nodup := by
  unfold viewOk
  rw [Bool.and_eq_true, Bool.and_eq_true, Bool.and_eq_true, okAll_iff, decide_eq_true_iff]
  constructor
  · rintro ⟨⟨⟨h1, h2⟩, h3⟩, h4, h5⟩; exact ⟨h1, h2, h3, h4, h5⟩
  · rintro ⟨h1, h2, h3, h4, h5⟩; exact ⟨⟨⟨h1, h2⟩, h3⟩, h4, h5⟩
theorem updI_zero (x : Int) : updI 0 x = x := by unfold updI; split <;> omega
theorem updN_zero (x : Nat) : updN 0 x = x := by unfold updN; split <;> omega
theorem updI_same (x : Int) : updI x 0 = x := rfl
theorem updN_same (x : Nat) : updN x 0 = x := rfl
/-- a view is made of nothing by its whole edit -/
theorem apply_whole {lg : Int} {l : List Fl} {f ce at_ le : Nat} (h : viewOk lg l f ce at_ le = true) : applyR 0 [] 0 0 0 0 [] l lg f ce at_ le = some (lg, l, f, ce, at_, le) := by
  unfold applyR
  show (if viewOk (updI 0 lg) l (updN 0 f) (updN 0 ce) (updN 0 at_) (updN 0 le) = true then some (updI 0 lg, l, updN 0 f, updN 0 ce, updN 0 at_, updN 0 le) else none) = _
  rw [updI_zero, updN_zero, updN_zero, updN_zero, updN_zero, if_pos h]
theorem find_at {l : List Fl} (hn : (l.map fun f => f.2).Nodup) {k : Nat} (hk : k < l.length) : l.findIdx (fun f => decide (f.2 = l[k].2)) = k := by
  rw [List.findIdx_eq hk]
  refine ⟨by simp, fun j hj => ?_⟩
  rw [decide_eq_false_iff_not]
  intro e
  have hm : k < (l.map fun f => f.2).length := by simpa using hk
  have h2 := (List.getElem_inj (xs := l.map fun f => f.2) (i := j) (j := k) (h₀ := by simp; omega) (h₁ := hm) hn).1 (by simpa using e)
  omega
theorem drop_at {l : List Fl} (hn : (l.map fun f => f.2).Nodup) {k : Nat} (hk : k < l.length) : dropF l l[k].2 = some (l.eraseIdx k) := by
  unfold dropF
  rw [find_at hn hk, if_pos hk]
theorem nodup_split {l : List Fl} (hn : (l.map fun f => f.2).Nodup) {k : Nat} (hk : k < l.length) : ∀ x ∈ l.eraseIdx k, x.2 ≠ l[k].2 := by
  intro x hx e
  rw [List.mem_eraseIdx_iff_getElem] at hx
  obtain ⟨i, hi, hik, rfl⟩ := hx
  have h2 := (List.getElem_inj (xs := l.map fun f => f.2) (i := i) (j := k) (h₀ := by simpa using hi) (h₁ := by simpa using hk) hn).1 (by simpa using e)
  exact hik h2
theorem dropF_none {l : List Fl} {n : Int} (h : ∀ x ∈ l, x.2 ≠ n) : dropF l n = none := by
  unfold dropF
  rw [if_neg]
  intro hlt
  have h1 := List.findIdx_getElem (w := hlt)
  exact h _ (List.getElem_mem hlt) (by simpa using h1)
theorem erase_perm (l : List Fl) {k : Nat} (hk : k < l.length) : (l.eraseIdx k ++ [l[k]]).Perm l := by
  have h1 : l = l.take k ++ l[k] :: l.drop (k + 1) := by
    conv => lhs; rw [← List.take_append_drop k l, List.drop_eq_getElem_cons hk]
  have h2 : (l.take k ++ l[k] :: l.drop (k + 1)).Perm (l[k] :: (l.take k ++ l.drop (k + 1))) := List.perm_middle
  rw [← h1] at h2
  rw [List.eraseIdx_eq_take_drop_succ]
  exact (List.perm_append_singleton _ _).trans h2.symm
theorem erase_len (l : List Fl) {k : Nat} (hk : k < l.length) {x : Fl} : (l.eraseIdx k ++ [x]).length = l.length := by
  rw [List.length_append, List.length_eraseIdx, if_pos hk, List.length_singleton]; omega
/-- a file that is dropped and put back comes last -/
theorem apply_back {lg : Int} {l : List Fl} {f ce at_ le : Nat} (h : viewOk lg l f ce at_ le = true) {k : Nat} (hk : k < l.length) :
    applyR lg l f ce at_ le [l[k].2] [l[k]] 0 0 0 0 0 = some (lg, l.eraseIdx k ++ [l[k]], f, ce, at_, le) := by
  obtain ⟨h1, h2, h3, h4, h5⟩ := (viewOk_iff _ _ _ _ _ _).1 h
  have hp := erase_perm l hk
  have hv : viewOk lg (l.eraseIdx k ++ [l[k]]) f ce at_ le = true := by
    rw [viewOk_iff]
    refine ⟨h1, by rw [hp.length_eq]; exact h2, h3, fun x hx => h4 x (hp.mem_iff.1 hx), ?_⟩
    exact (hp.map fun f => f.2).nodup_iff.2 h5
  have hd : dropsF l [l[k].2] = some (l.eraseIdx k) := by
    show (dropF l l[k].2).bind _ = _
    rw [drop_at h5 hk]; rfl
  unfold applyR
  rw [hd]
  show (if viewOk lg (l.eraseIdx k ++ [l[k]]) f ce at_ le = true then _ else _) = _
  rw [if_pos hv]; rfl
theorem apply_twice {lg : Int} {l : List Fl} {f ce at_ le : Nat} (h : viewOk lg l f ce at_ le = true) {k : Nat} (hk : k < l.length) : applyR lg l f ce at_ le [l[k].2, l[k].2] [] 0 0 0 0 0 = none := by
  obtain ⟨h1, h2, h3, h4, h5⟩ := (viewOk_iff _ _ _ _ _ _).1 h
  have hd : dropsF l [l[k].2, l[k].2] = none := by
    show (dropF l l[k].2).bind _ = _
    rw [drop_at h5 hk]
    show (dropF (l.eraseIdx k) l[k].2).bind _ = _
    rw [dropF_none (nodup_split h5 hk)]; rfl
  unfold applyR
  rw [hd]
theorem apply_again {lg : Int} {l : List Fl} {f ce at_ le : Nat} {k : Nat} (hk : k < l.length) : applyR lg l f ce at_ le [] [l[k]] 0 0 0 0 0 = none := by
  have hv : ¬ viewOk lg (l ++ [l[k]]) f ce at_ le = true := by
    rw [viewOk_iff]
    rintro ⟨_, _, _, _, h5⟩
    rw [List.map_append, List.nodup_append] at h5
    exact h5.2.2 l[k].2 (List.mem_map.2 ⟨l[k], List.getElem_mem hk, rfl⟩) l[k].2 (by simp) rfl
  unfold applyR
  show (if viewOk lg (l ++ [l[k]]) f ce at_ le = true then _ else _) = _
  rw [if_neg hv]
theorem apply_ok {lg : Int} {l : List Fl} {f ce at_ le : Nat} {ds : List Int} {add : List Fl} {elg : Int} {ef ece eat ele : Nat} {x : Int × List Fl × Nat × Nat × Nat × Nat} (h : applyR lg l f ce at_ le ds add elg ef ece eat ele = some x) :
    viewOk x.1 x.2.1 x.2.2.1 x.2.2.2.1 x.2.2.2.2.1 x.2.2.2.2.2 = true := by
  unfold applyR at h
  split at h
  · cases h
  · split at h
    · injection h with h
      subst h
      assumption
    · cases h
end Go.Proofs.Ytokcaoaclheiiaa
