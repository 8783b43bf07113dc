/-
  The walk of frame.Split.
-/
import Derived.Test.YtnbdijifhimogaaFrameW6
namespace Go.Proofs.Ytnbdijifhimogaa
open Go.RowKit
set_option linter.unusedVariables false
set_option linter.unusedSimpArgs false

/-- an append to a row of one element type keeps the rows of another one -/
theorem own_far {w w' : World} {base base' : Nat} {e e' : TypeId} {sz sz' n n' : Nat} {v v' : Value} {xs xs' : List Value} (h : w.ownsRow base e sz v n xs) (h' : w.ownsRow base' e' sz' v' n' xs') (hne : e ≠ e') (hg : w.grownBy w' v.ownBlock) : w'.ownsRow base' e' sz' v' n' xs' := by
  refine ⟨h'.1, ?_⟩
  rcases h'.2 with h2 | ⟨g, cap, cur, rfl, hb, hh, r⟩
  · exact .inl h2
  · refine .inr ⟨g, cap, cur, rfl, hb, (hg.block g (Array.getElem?_eq_some_iff.1 hh).1 (fun e0 => ?_)).trans hh, r⟩
    rcases h.2 with ⟨rfl, _⟩ | ⟨g1, cap1, cur1, rfl, _, hh1, _⟩
    · simp [Value.ownBlock] at e0
    · have : g1 = g := by simpa [Value.ownBlock] using e0.symm
      subst this
      rw [hh] at hh1
      injection hh1 with hh1
      injection hh1 with _ ht
      exact hne ht.symm
def nvi (l : List Nat) : List Value := l.map fun (k : Nat) => Value.int .i64 (k : Int)
theorem nvi_one (l : List Nat) : ∀ u ∈ nvi l, u.oneCell' = true := by
  intro u hu; simp only [nvi, List.mem_map] at hu; obtain ⟨b, _, rfl⟩ := hu; rfl
theorem pv_one (l : List Pt) : ∀ u ∈ l.map Pt.v, u.oneCell' = true := by
  intro u hu; simp only [List.mem_map] at hu; obtain ⟨b, _, rfl⟩ := hu; rfl

/-- Split: the kinds, the bodies, where it ends, the error -/
def splitG (l : List UInt8) : Nat → Nat → List Nat → List (List UInt8) → List Nat × List (List UInt8) × Nat × Nat
  | 0, k, ks, bs => (ks, bs, k, 0)
  | f + 1, k, ks, bs => if k < l.length then
      (if (takeR (l.drop k)).1 = 0 then splitG l f (k + (takeR (l.drop k)).2.2.2) (ks ++ [(takeR (l.drop k)).2.1]) (bs ++ [(takeR (l.drop k)).2.2.1]) else (ks, bs, k, (takeR (l.drop k)).1))
    else (ks, bs, k, 0)
def splitL (l : List UInt8) : List Nat × List (List UInt8) × Nat × Nat := splitG l (l.length + 1) 0 [] []
theorem takeR_ok {r : List UInt8} (h : (takeR r).1 = 0) : 12 ≤ (takeR r).2.2.2 ∧ (takeR r).2.2.2 ≤ r.length ∧ (takeR r).2.2.2 = (takeR r).2.2.1.length + 12 ∧ (takeR r).2.1 < 256 := by
  unfold takeR at h ⊢
  have hb : (r.getD 0 0).toNat < 256 := (r.getD 0 0).toNat_lt
  split at h
  · cases h
  · rename_i h1
    rw [if_neg h1]
    split at h
    · rename_i h2; exact absurd h h2
    · rename_i h2
      rw [if_neg h2]
      split at h
      · cases h
      · rename_i h3
        rw [if_neg h3]
        split at h
        · cases h
        · rename_i h4
          rw [if_neg h4]
          split at h
          · rename_i h5; exact absurd h h5
          · rename_i h5
            rw [if_neg h5]
            simp only [List.length_take, List.length_drop]
            omega

/-- slices of the call's own, and what they hold -/
def Pts (w : World) (base : Nat) (ps : List Pt) (bs : List (List UInt8)) : Prop := ps.map (·.l) = bs ∧ ∀ p ∈ ps, OwnB w base p.A p.n p.c p.l
theorem Pts.up {w w' : World} {base : Nat} {ps : List Pt} {bs : List (List UInt8)} (h : Pts w base ps bs) (hu : Up w w') : Pts w' base ps bs := ⟨h.1, fun p hp => (h.2 p hp).up hu⟩

end Go.Proofs.Ytnbdijifhimogaa
