/-
  Texts of this claim, joined: DkB, DkW5, DkB2, Open, OpenE, Num, NumLaw, RegionC, DkIter, DkBytes, Conv, OpenM, OpenZ.
-/
import Derived.StillTailTactics
import Derived.Deep.Cut
import Derived.Deep.CutRange
import Derived.ProofKit
import Derived.OpenShut
import Derived.ShutString
import Derived.ChangeOld
import Derived.Deep.Slices
import Derived.Deep.Fields
import Derived.Shelf.SlIter.Nil
import Derived.Shelf.SortM.Plain
import Derived.Shelf.SortM.SortNone
import Derived.IntWalk
import Derived.Lib.ConvBytes
import Derived.Test.YtebhhfmekmpnkaaZ1
/-
  The disk in memory: what a change of one of its parts leaves of the others.
-/
namespace Go.Proofs.Ytebhhfmekmpnkaa
open Go.RowKit Go.Maps
set_option linter.unusedVariables false
set_option linter.unusedSimpArgs false

/-- of which type a block's cells are -/
def kd (w : World) (k : Nat) : Option (Option TypeId) := (w.heap[k]?).map fun o => match o with | .cells _ t _ => some t | _ => none
theorem kd_cells {w : World} {k : Nat} {cs : Array Value} {t : TypeId} {fz : Nat × Nat} (h : w.heap[k]? = some (.cells cs t fz)) : kd w k = some (some t) := by unfold kd; rw [h]; rfl
theorem kd_row {w : World} {base n c : Nat} {e : TypeId} {sz : Nat} {A : Option Addr} {xs : List Value} (h : w.ownsRow base e sz (.slice A n c) n xs) {k : Nat} (hk : inA A k) : kd w k = some (some e) := by
  obtain ⟨a, rfl, rfl⟩ := hk
  rcases h.2 with ⟨hv, _⟩ | ⟨g, cap, cur, hv, hg, hh, r⟩
  · cases hv
  · injection hv with hA
    injection hA with hA
    subst hA
    exact kd_cells hh
theorem ob_inA {A : Option Addr} {n c k : Nat} (h : Rg.ob (.slice A n c) k) : inA A k := by
  cases A with
  | none => exact h.elim
  | some a => exact ⟨a, rfl, h⟩
theorem at_inA {A A' : Option Addr} {n n' c c' g : Nat} (hat : (Value.slice A' n' c').ownBlock = (Value.slice A n c).ownBlock ∨ (Value.slice A' n' c').ownBlock = some g) : ∀ k, inA A' k → inA A k ∨ g ≤ k := by
  rintro k ⟨a, rfl, rfl⟩
  rcases hat with h | h
  · cases A with
    | none => simp [Value.ownBlock] at h
    | some z => simp [Value.ownBlock] at h; exact .inl ⟨z, rfl, h.symm⟩
  · simp [Value.ownBlock] at h
    exact .inr (Nat.le_of_eq h.symm)
theorem keepsRow {w w' : World} {base n c : Nat} {e : TypeId} {sz : Nat} {A : Option Addr} {xs : List Value} (h : w.ownsRow base e sz (.slice A n c) n xs) (hg : w.grownBy w' (Value.slice A n c).ownBlock) : Rg.Keeps (fun k => inA A k) w w' :=
  keeps_grown h hg (fun _ hk => ob_inA hk)
theorem keepsMap {w w' : World} {b : Nat} (hg : w.grownBy w' (some b)) : Rg.Keeps (fun k => k = b) w w' :=
  ⟨hg.os, hg.tape, hg.output, hg.size, fun k hk hx => hg.block k hk (fun e => hx (Option.some.inj e))⟩
section
variable {B : Nat} {h : Hp} {d : Dk} {w w' : World} {X : Nat → Prop}
theorem kd_map {b n : Nat} {D : Mp} (h : w.ownsMap Try.prog 9 (plainElem Try.prog 3) b n D) : kd w b = some none := by
  obtain ⟨es, clock, hb, _⟩ := h
  unfold kd
  rw [hb]; rfl
theorem DiskAt.fkeep (H : DiskAt B h d w) (hK : Rg.Keeps X w w') (hx : ∀ k, X k → kd w k ≠ some (some 73) ∧ kd w k ≠ some (some 78) ∧ kd w k ≠ some (some 5)) :
    w'.ownsRow B 73 1 (.slice h.fa d.files.length h.fc) d.files.length (pfs h.fl) ∧ ∀ (i : Nat) (f : Fl) (x : Fi), h.fl[i]? = some f → d.files[i]? = some x → FileAt B f x w' :=
  ⟨own_keepsX H.files hK (fun k hk hX => (hx k hX).1 (kd_row H.files hk)), fun i f x hf hx2 => by
    have hF := H.each i f x hf hx2
    exact hF.keepsX hK (fun hX => (hx _ hX).2.1 (kd_cells hF.blk)) (fun k hk hX => (hx k hX).2.2 (kd_row hF.own hk))⟩
theorem DiskAt.gkeep (H : DiskAt B h d w) (hK : Rg.Keeps X w w') (hx : ∀ k, X k → kd w k ≠ some (some 71)) : w'.heap[h.g]? = some (.cells (dcs d h) 71 (0, 0)) :=
  (hK.block _ (Array.getElem?_eq_some_iff.1 H.hd).1 (fun hX => hx _ hX (kd_cells H.hd))).trans H.hd
theorem DiskAt.mkeep (H : DiskAt B h d w) (hK : Rg.Keeps X w w') (hx : ∀ k, X k → kd w k ≠ some none) : w'.ownsMap Try.prog 9 (plainElem Try.prog 3) h.nb (Maps.size d.names) d.names ∧ w'.ownsMap Try.prog 9 (plainElem Try.prog 3) h.lb (Maps.size d.lasted) d.lasted :=
  ⟨map_keepsX H.names hK (fun hX => hx _ hX (kd_map H.names)), map_keepsX H.lasted hK (fun hX => hx _ hX (kd_map H.lasted))⟩
theorem DiskAt.tkeep (H : DiskAt B h d w) (hK : Rg.Keeps X w w') (hx : ∀ k, X k → kd w k ≠ some (some 76)) : w'.ownsRow B 76 4 (.slice h.ta d.turns.length h.tc) d.turns.length (tcs d.turns) :=
  own_keepsX H.turns hK (fun k hk hX => hx k hX (kd_row H.turns hk))
theorem setc_or (hK : Rg.Keeps X w w') (g i : Nat) (v : Value) : Rg.Keeps (fun k => k = g ∨ X k) w (w'.setCell ⟨g, i, none⟩ v) := by
  have h2 : Rg.Keeps (fun k => k = g) w' (w'.setCell ⟨g, i, none⟩ v) := setc_keeps _ _ _ _ _ (Rg.Keeps.refl _ _)
  exact Keeps.trans2 (Keeps.weak hK (fun k hk => .inr hk)) (Keeps.weak h2 (fun k hk => .inl hk))
/-- the names have turned -/
theorem DiskAt.setNames (H : DiskAt B h d w) {n : Nat} {D' : Mp} (hK : Rg.Keeps (fun k => k = h.nb) w w') (hm : w'.ownsMap Try.prog 9 (plainElem Try.prog 3) h.nb n D') : DiskAt B h { d with names := D' } w' ∧ DkTo h w h w' := by
  have hx : ∀ k, k = h.nb → kd w k = some none := fun k hk => by subst hk; exact kd_map H.names
  have hf := H.fkeep hK (fun k hk => by rw [hx k hk]; exact ⟨by simp, by simp, by simp⟩)
  exact ⟨⟨H.gkeep hK (fun k hk => by rw [hx k hk]; simp), H.base, hf.1, H.flen, hf.2, H.apart, map_tight hm, map_keepsX H.lasted hK (fun e => H.nl e.symm), H.nl, H.nbase, H.tkeep hK (fun k hk => by rw [hx k hk]; simp)⟩,
    rfl, Keeps.weak hK (fun k hk => .inr (.inl hk)), fun k hk => .inl hk⟩
theorem DiskAt.setLasted (H : DiskAt B h d w) {n : Nat} {D' : Mp} (hK : Rg.Keeps (fun k => k = h.lb) w w') (hm : w'.ownsMap Try.prog 9 (plainElem Try.prog 3) h.lb n D') : DiskAt B h { d with lasted := D' } w' ∧ DkTo h w h w' := by
  have hx : ∀ k, k = h.lb → kd w k = some none := fun k hk => by subst hk; exact kd_map H.lasted
  have hf := H.fkeep hK (fun k hk => by rw [hx k hk]; exact ⟨by simp, by simp, by simp⟩)
  exact ⟨⟨H.gkeep hK (fun k hk => by rw [hx k hk]; simp), H.base, hf.1, H.flen, hf.2, H.apart, map_keepsX H.names hK (fun e => H.nl e), map_tight hm, H.nl, H.nbase, H.tkeep hK (fun k hk => by rw [hx k hk]; simp)⟩,
    rfl, Keeps.weak hK (fun k hk => .inr (.inr (.inl hk))), fun k hk => .inl hk⟩
/-- the turns have grown, or are none: told of the world behind all -/
theorem DiskAt.setTurnsF (H : DiskAt B h d w) {ta' : Option Addr} {tc' m0 : Nat} (l' : List Tn) (hg2 : w'.heap[h.g]? = some (.cells (dcs { d with turns := l' } { h with ta := ta', tc := tc' }) 71 (0, 0))) (ho : w'.ownsRow B 76 4 (.slice ta' l'.length tc') l'.length (tcs l')) (hK2 : Rg.Keeps (fun k => k = h.g ∨ inA h.ta k) w w') (hm0 : m0 ≤ w.heap.size) (hat : ∀ k, inA ta' k → inA h.ta k ∨ m0 ≤ k) :
    DiskAt B { h with ta := ta', tc := tc' } { d with turns := l' } w' ∧ Rg.Keeps (foot h) w w' ∧ ∀ k, foot { h with ta := ta', tc := tc' } k → foot h k ∨ m0 ≤ k := by
  have hx : ∀ k, (k = h.g ∨ inA h.ta k) → kd w k = some (some 71) ∨ kd w k = some (some 76) := by
    rintro k (rfl | hk)
    · exact .inl (kd_cells H.hd)
    · exact .inr (kd_row H.turns hk)
  have hf := H.fkeep hK2 (fun k hk => by rcases hx k hk with e | e <;> rw [e] <;> exact ⟨by decide, by decide, by decide⟩)
  have hm := H.mkeep hK2 (fun k hk => by rcases hx k hk with e | e <;> rw [e] <;> simp)
  refine ⟨⟨hg2, H.base, hf.1, H.flen, hf.2, H.apart, hm.1, hm.2, H.nl, H.nbase, ho⟩, Keeps.weak hK2 (fun k hk => ?_), fun k hk => ?_⟩
  · rcases hk with rfl | hk
    · exact .inl rfl
    · exact .inr (.inr (.inr (.inr (.inl hk))))
  · rcases hk with hk | hk | hk | hk | hk | hk
    · exact .inl (.inl hk)
    · exact .inl (.inr (.inl hk))
    · exact .inl (.inr (.inr (.inl hk)))
    · exact .inl (.inr (.inr (.inr (.inl hk))))
    · rcases hat k hk with h9 | h9
      · exact .inl (.inr (.inr (.inr (.inr (.inl h9)))))
      · exact .inr h9
    · exact .inl (.inr (.inr (.inr (.inr (.inr hk)))))
/-- the turns have grown, or are none -/
theorem DiskAt.setTurns (H : DiskAt B h d w) {ta' : Option Addr} {tc' : Nat} (l' : List Tn) (ho : w'.ownsRow B 76 4 (.slice ta' l'.length tc') l'.length (tcs l')) (hK : Rg.Keeps (fun k => inA h.ta k) w w') (hat : ∀ k, inA ta' k → inA h.ta k ∨ w.heap.size ≤ k) :
    DiskAt B { h with ta := ta', tc := tc' } { d with turns := l' } (w'.setCell ⟨h.g, 4, none⟩ (.slice ta' l'.length tc')) ∧ DkTo h w { h with ta := ta', tc := tc' } (w'.setCell ⟨h.g, 4, none⟩ (.slice ta' l'.length tc')) := by
  have hg1 : w'.heap[h.g]? = some (.cells (dcs d h) 71 (0, 0)) := H.gkeep hK (fun k hk => by rw [kd_row H.turns hk]; decide)
  have hg2 := setc_heap w' h.g 4 (.slice ta' l'.length tc') _ _ hg1
  have hK3 : Rg.Keeps (fun k => k = h.g) w' (w'.setCell ⟨h.g, 4, none⟩ (.slice ta' l'.length tc')) := setc_keeps _ _ _ _ _ (Rg.Keeps.refl _ _)
  have h9 := H.setTurnsF l' hg2 (own_keepsX ho hK3 (fun k hk e => by
    have h1 := kd_row ho hk
    rw [e, kd_cells hg1] at h1
    exact absurd h1 (by decide))) (setc_or hK h.g 4 (.slice ta' l'.length tc')) (Nat.le_refl _) hat
  exact ⟨h9.1, rfl, h9.2.1, h9.2.2⟩
/-- an empty file more -/
theorem DiskAt.addFile (H : DiskAt B h d w) {fa' : Option Addr} {fc' g : Nat} (hg : w.heap[g]? = some (.cells #[.slice none 0 0, .int .i64 0] 78 (0, 0))) (hgn : ¬ foot h g) (hgB : B ≤ g) {m0 : Nat} (hm0 : m0 ≤ g) (hmw : m0 ≤ w.heap.size)
    (ho : w'.ownsRow B 73 1 (.slice fa' (d.files.length + 1) fc') (d.files.length + 1) (pfs h.fl ++ [.pointer (some ⟨g, 0, none⟩)])) (hK : Rg.Keeps (fun k => inA h.fa k) w w') (hat : ∀ k, inA fa' k → inA h.fa k ∨ m0 ≤ k) :
    DiskAt B { h with fa := fa', fc := fc', fl := h.fl ++ [⟨g, none, 0⟩] } { d with files := d.files ++ [⟨[], 0⟩] } (w'.setCell ⟨h.g, 1, none⟩ (.slice fa' (d.files.length + 1) fc')) ∧
      Rg.Keeps (foot h) w (w'.setCell ⟨h.g, 1, none⟩ (.slice fa' (d.files.length + 1) fc')) ∧ ∀ k, foot { h with fa := fa', fc := fc', fl := h.fl ++ [⟨g, none, 0⟩] } k → foot h k ∨ m0 ≤ k := by
  have hx : ∀ k, (k = h.g ∨ inA h.fa k) → kd w k = some (some 71) ∨ kd w k = some (some 73) := by
    rintro k (rfl | hk)
    · exact .inl (kd_cells H.hd)
    · exact .inr (kd_row H.files hk)
  have hg1 : w'.heap[h.g]? = some (.cells (dcs d h) 71 (0, 0)) := H.gkeep hK (fun k hk => by rw [kd_row H.files hk]; decide)
  have hg2 := setc_heap w' h.g 1 (.slice fa' (d.files.length + 1) fc') _ _ hg1
  have hK2 := setc_or hK h.g 1 (.slice fa' (d.files.length + 1) fc')
  have hm := H.mkeep hK2 (fun k hk => by rcases hx k hk with e | e <;> rw [e] <;> simp)
  have ht := H.tkeep hK2 (fun k hk => by rcases hx k hk with e | e <;> rw [e] <;> decide)
  have hK3 : Rg.Keeps (fun k => k = h.g) w' (w'.setCell ⟨h.g, 1, none⟩ (.slice fa' (d.files.length + 1) fc')) := setc_keeps _ _ _ _ _ (Rg.Keeps.refl _ _)
  have heach : ∀ (i : Nat) (f : Fl) (x : Fi), h.fl[i]? = some f → d.files[i]? = some x → FileAt B f x (w'.setCell ⟨h.g, 1, none⟩ (.slice fa' (d.files.length + 1) fc')) := fun i f x hf hx2 => by
    have hF := H.each i f x hf hx2
    refine hF.keepsX hK2 (fun hX => ?_) (fun k hk hX => ?_)
    · have h1 := kd_cells hF.blk
      rcases hx _ hX with e | e <;> rw [e] at h1 <;> exact absurd h1 (by decide)
    · have h1 := kd_row hF.own hk
      rcases hx _ hX with e | e <;> rw [e] at h1 <;> exact absurd h1 (by decide)
  have hfg : (w'.setCell ⟨h.g, 1, none⟩ (.slice fa' (d.files.length + 1) fc')).heap[g]? = some (.cells #[.slice none 0 0, .int .i64 0] 78 (0, 0)) := by
    refine (hK2.block g (Array.getElem?_eq_some_iff.1 hg).1 (fun hX => ?_)).trans hg
    rcases hX with e | e
    · exact hgn (.inl e)
    · exact hgn (.inr (.inr (.inr (.inl e))))
  have hfl := H.flen
  refine ⟨⟨?_, H.base, ?_, by simp [hfl], fun i f x hf hx2 => ?_, fun i j f f' hij hf hf' => ?_, hm.1, hm.2, H.nl, H.nbase, ht⟩, Keeps.weak hK2 (fun k hk => ?_), fun k hk => ?_⟩
  · rw [hg2]; simp [dcs]
  · have hp : pfs (h.fl ++ [⟨g, none, 0⟩]) = pfs h.fl ++ [.pointer (some ⟨g, 0, none⟩)] := by simp [pfs]
    show World.ownsRow _ B _ 1 (.slice fa' (d.files ++ [(⟨[], 0⟩ : Fi)]).length fc') (d.files ++ [(⟨[], 0⟩ : Fi)]).length (pfs (h.fl ++ [(⟨g, none, 0⟩ : Fl)]))
    rw [List.length_append, hp]
    refine own_keepsX ho hK3 (fun k hk e => ?_)
    have h1 := kd_row ho hk
    rw [e, kd_cells hg1] at h1
    exact absurd h1 (by decide)
  · by_cases hi : i < h.fl.length
    · rw [List.getElem?_append_left hi] at hf
      rw [List.getElem?_append_left (by omega)] at hx2
      exact heach i f x hf hx2
    · have hi2 : i = h.fl.length := by
        have := (List.getElem?_eq_some_iff.1 hf).1
        simp at this
        omega
      subst hi2
      rw [List.getElem?_append_right (Nat.le_refl _), Nat.sub_self] at hf
      rw [List.getElem?_append_right (by omega), hfl, Nat.sub_self] at hx2
      simp at hf hx2
      subst hf hx2
      exact ⟨hfg, World.ownsRow_nil _ _ _ _, hgB⟩
  · have hin : ∀ (j : Nat) (f : Fl), (h.fl ++ [⟨g, none, 0⟩])[j]? = some f → (j < h.fl.length ∧ h.fl[j]? = some f) ∨ (j = h.fl.length ∧ f = ⟨g, none, 0⟩) := fun j f hf => by
      by_cases hj : j < h.fl.length
      · rw [List.getElem?_append_left hj] at hf; exact .inl ⟨hj, hf⟩
      · have h9 := (List.getElem?_eq_some_iff.1 hf).1
        simp at h9
        have hj2 : j = h.fl.length := by omega
        subst hj2
        rw [List.getElem?_append_right (Nat.le_refl _), Nat.sub_self] at hf
        simp at hf
        exact .inr ⟨rfl, hf.symm⟩
    rcases hin i f hf with ⟨h1, h2⟩ | ⟨h1, rfl⟩
    · rcases hin j f' hf' with ⟨h3, h4⟩ | ⟨h3, rfl⟩
      · exact H.apart i j f f' hij h2 h4
      · exact ⟨fun e => hgn (.inr (.inr (.inr (.inr (.inr ⟨f, List.mem_of_getElem? h2, .inl e.symm⟩))))), fun k _ hk => by obtain ⟨a, ha, _⟩ := hk; cases ha⟩
    · rcases hin j f' hf' with ⟨h3, h4⟩ | ⟨h3, rfl⟩
      · exact ⟨fun e => hgn (.inr (.inr (.inr (.inr (.inr ⟨f', List.mem_of_getElem? h4, .inl e⟩))))), fun k hk => by obtain ⟨a, ha, _⟩ := hk; cases ha⟩
      · omega
  · rcases hk with rfl | hk
    · exact .inl rfl
    · exact .inr (.inr (.inr (.inl hk)))
  · rcases hk with hk | hk | hk | hk | hk | ⟨f, hf, hk⟩
    · exact .inl (.inl hk)
    · exact .inl (.inr (.inl hk))
    · exact .inl (.inr (.inr (.inl hk)))
    · rcases hat k hk with h9 | h9
      · exact .inl (.inr (.inr (.inr (.inl h9))))
      · exact .inr h9
    · exact .inl (.inr (.inr (.inr (.inr (.inl hk)))))
    · rcases List.mem_append.1 hf with hf | hf
      · exact .inl (.inr (.inr (.inr (.inr (.inr ⟨f, hf, hk⟩)))))
      · rw [List.mem_singleton] at hf
        subst hf
        rcases hk with rfl | hk
        · exact .inr hm0
        · obtain ⟨a, ha, _⟩ := hk; cases ha
/-- one file has turned -/
theorem DiskAt.setFile (H : DiskAt B h d w) {i : Nat} {f : Fl} {x x' : Fi} {A' : Option Addr} {c' : Nat} (hf : h.fl[i]? = some f) (hx : d.files[i]? = some x) (hb : w'.heap[f.g]? = some (.cells #[.slice A' x'.b.length c', .int .i64 (x'.last : Int)] 78 (0, 0)))
    (ho : OwnB w' B A' x'.b.length c' x'.b) (hK : Rg.Keeps (fun k => k = f.g ∨ inA f.A k) w w') (hat : ∀ k, inA A' k → inA f.A k ∨ w.heap.size ≤ k) :
    DiskAt B { h with fl := h.fl.set i ⟨f.g, A', c'⟩ } { d with files := d.files.set i x' } w' ∧ DkTo h w { h with fl := h.fl.set i ⟨f.g, A', c'⟩ } w' := by
  have hF := H.each i f x hf hx
  have hkd : ∀ k, (k = f.g ∨ inA f.A k) → kd w k = some (some 78) ∨ kd w k = some (some 5) := by
    rintro k (rfl | hk)
    · exact .inl (kd_cells hF.blk)
    · exact .inr (kd_row hF.own hk)
  have hil : i < h.fl.length := (List.getElem?_eq_some_iff.1 hf).1
  have hfl := H.flen
  have hm := H.mkeep hK (fun k hk => by rcases hkd k hk with e | e <;> rw [e] <;> simp)
  have ht := H.tkeep hK (fun k hk => by rcases hkd k hk with e | e <;> rw [e] <;> decide)
  have hg1 := H.gkeep hK (fun k hk => by rcases hkd k hk with e | e <;> rw [e] <;> decide)
  have hfr := own_keepsX H.files hK (fun k hk hX => by
    have h1 := kd_row H.files hk
    rcases hkd k hX with e | e <;> rw [e] at h1 <;> exact absurd h1 (by decide))
  have hpf : pfs (h.fl.set i ⟨f.g, A', c'⟩) = pfs h.fl := by
    unfold pfs
    rw [List.map_set]
    have h9 := (List.getElem?_eq_some_iff.1 hf).2
    have e : (Value.pointer (some ⟨f.g, 0, none⟩)) = (h.fl.map fun f => Value.pointer (some ⟨f.g, 0, none⟩))[i]'(by rw [List.length_map]; exact hil) := by rw [List.getElem_map, h9]
    show List.set _ i (Value.pointer (some ⟨f.g, 0, none⟩)) = _
    conv => lhs; rw [e]
    exact List.set_getElem_self _
  refine ⟨⟨?_, H.base, ?_, by simp [hfl], fun j f2 x2 hf2 hx2 => ?_, fun j k f2 f3 hjk hf2 hf3 => ?_, hm.1, hm.2, H.nl, H.nbase, ht⟩, rfl, Keeps.weak hK (fun k hk => .inr (.inr (.inr (.inr (.inr ⟨f, List.mem_of_getElem? hf, hk⟩))))), fun k hk => ?_⟩
  · rw [hg1]; simp [dcs]
  · show World.ownsRow _ B _ 1 (.slice h.fa (d.files.set i x').length h.fc) (d.files.set i x').length (pfs (h.fl.set i ⟨f.g, A', c'⟩))
    rw [List.length_set, hpf]
    exact hfr
  · by_cases hji : i = j
    · subst hji
      have hf2' : f2 = ⟨f.g, A', c'⟩ := by rw [List.getElem?_set_self hil] at hf2; injection hf2 with hf2; exact hf2.symm
      have hx2' : x2 = x' := by rw [List.getElem?_set_self (by omega)] at hx2; injection hx2 with hx2; exact hx2.symm
      subst hf2' hx2'
      exact ⟨hb, ho, hF.base⟩
    · rw [List.getElem?_set_ne hji] at hf2 hx2
      have hap := H.apart i j f f2 hji hf hf2
      have hF2 := H.each j f2 x2 hf2 hx2
      refine hF2.keepsX hK (fun hX => ?_) (fun k hk hX => ?_)
      · rcases hX with e | e
        · exact hap.1 e.symm
        · have h1 := kd_cells hF2.blk
          rw [kd_row hF.own e] at h1
          exact absurd h1 (by decide)
      · rcases hX with e | e
        · subst e
          have h1 := kd_row hF2.own hk
          rw [kd_cells hF.blk] at h1
          exact absurd h1 (by decide)
        · exact hap.2 k e hk
  · have hnew : ∀ (m : Nat) (f4 : Fl), m ≠ i → h.fl[m]? = some f4 → ∀ y, inA A' y → ¬ inA f4.A y := fun m f4 hm4 hf4 y hy hy4 => by
      rcases hat y hy with h9 | h9
      · exact (H.apart i m f f4 (fun e => hm4 e.symm) hf hf4).2 y h9 hy4
      · have h8 := (inA_own (H.each m f4 (d.files[m]'(by have := (List.getElem?_eq_some_iff.1 hf4).1; omega)) hf4 (List.getElem?_eq_getElem (by have := (List.getElem?_eq_some_iff.1 hf4).1; omega))).own hy4).2
        omega
    by_cases hji : i = j
    · subst hji
      rw [List.getElem?_set_self hil] at hf2
      rw [List.getElem?_set_ne hjk] at hf3
      injection hf2 with hf2
      subst hf2
      exact ⟨(H.apart i k f f3 hjk hf hf3).1, fun y hy hy3 => hnew k f3 (fun e => hjk e.symm) hf3 y hy hy3⟩
    · rw [List.getElem?_set_ne hji] at hf2
      by_cases hki : i = k
      · subst hki
        rw [List.getElem?_set_self hil] at hf3
        injection hf3 with hf3
        subst hf3
        exact ⟨(H.apart j i f2 f hjk hf2 hf).1, fun y hy hy3 => hnew j f2 hjk hf2 y hy3 hy⟩
      · rw [List.getElem?_set_ne hki] at hf3
        exact H.apart j k f2 f3 hjk hf2 hf3
  · rcases hk with hk | hk | hk | hk | hk | ⟨f2, hf2, hk⟩
    · exact .inl (.inl hk)
    · exact .inl (.inr (.inl hk))
    · exact .inl (.inr (.inr (.inl hk)))
    · exact .inl (.inr (.inr (.inr (.inl hk))))
    · exact .inl (.inr (.inr (.inr (.inr (.inl hk)))))
    · rcases List.mem_or_eq_of_mem_set hf2 with hf2 | rfl
      · exact .inl (.inr (.inr (.inr (.inr (.inr ⟨f2, hf2, hk⟩)))))
      · rcases hk with rfl | hk
        · exact .inl (.inr (.inr (.inr (.inr (.inr ⟨f, List.mem_of_getElem? hf, .inl rfl⟩)))))
        · rcases hat k hk with h9 | h9
          · exact .inl (.inr (.inr (.inr (.inr (.inr ⟨f, List.mem_of_getElem? hf, .inr h9⟩)))))
          · exact .inr h9
end
end Go.Proofs.Ytebhhfmekmpnkaa

/-
  The walk of the disk's Create.
-/
namespace Go.Proofs.Ytebhhfmekmpnkaa
open Go.RowKit Go.Maps
set_option linter.unusedVariables false
set_option linter.unusedSimpArgs false

def createD (d : Dk) (s : List UInt8) : Dk × Nat :=
  if (callN [s] d).2 ≠ 0 then ((callN [s] d).1, (callN [s] d).2)
  else if Maps.has d.names (nk s) = true then ((callN [s] d).1, 12)
  else if 64 ≤ Maps.size d.names then ((callN [s] d).1, 65)
  else ({ (callN [s] d).1 with names := d.names.put (nk s) (fiv d.files.length), turns := d.turns ++ [⟨1, d.files.length, s, []⟩], files := d.files ++ [⟨[], 0⟩] }, 0)
theorem MOk.more {D : Mp} {n m : Nat} (h : MOk D n) (hnm : n ≤ m) : MOk D m := ⟨h.1, fun kl hk => by
  obtain ⟨i, hi, r⟩ := h.2 kl hk
  exact ⟨i, by omega, r⟩⟩
theorem MOk.put {D : Mp} {n i : Nat} (h : MOk D n) (hi : i < n) (s : List UInt8) : MOk (D.put (nk s) (fiv i)) n := by
  refine ⟨h.1.put (show WideAt.IsKeyLit (nk s) from trivial) _, fun kl hk => ?_⟩
  by_cases hkl : kl = nk s
  · subst hkl
    exact ⟨i, hi, fun z => Maps.atKey_put_same h.1.isMap (show WideAt.IsKeyLit (nk s) from trivial) _ z⟩
  · rw [Maps.has_put_other hkl] at hk
    obtain ⟨j, hj, hat⟩ := h.2 kl hk
    exact ⟨j, hj, fun z => by rw [Maps.atKey_put_other hkl]; exact hat z⟩
theorem MOk.del {D : Mp} {n : Nat} (h : MOk D n) (s : List UInt8) : MOk (D.del (nk s)) n := by
  refine ⟨h.1.del _, fun kl hk => ?_⟩
  by_cases hkl : kl = nk s
  · subst hkl
    rw [Maps.has_del_same] at hk
    cases hk
  · rw [Maps.has_del_other hkl] at hk
    obtain ⟨j, hj, hat⟩ := h.2 kl hk
    exact ⟨j, hj, fun z => by rw [Maps.atKey_del_other hkl]; exact hat z⟩
theorem createD_ok {d : Dk} (h : DkOk d) (s : List UInt8) (hnf : d.files.length < 1000000) (hnt : d.turns.length < 1000000) : DkOk (createD d s).1 := by
  have hc := callN_ok (L := [s]) h
  obtain ⟨h1, h2, h3, h4, h5, h6, h7, h8⟩ := callN_same [s] d
  unfold createD
  split
  · exact hc
  · split
    · exact hc
    · split
      · exact hc
      · refine ⟨?_, ?_, ?_, ?_, ?_, ?_, hc.sl, ?_, hc.s, hc.f, hc.q⟩
        · exact (h.nm.more (by simp)).put (by simp) s
        · show MOk (callN [s] d).1.lasted _
          rw [h3]; exact h.la.more (by simp)
        · intro t ht
          rcases List.mem_append.1 ht with ht | ht
          · rcases h.tn t ht with h9 | h9
            · exact .inl (by simp; omega)
            · exact .inr h9
          · rw [List.mem_singleton] at ht
            subst ht
            exact .inl (by simp)
        · simp; omega
        · simp; omega
        · show Maps.size (d.names.put _ _) ≤ _
          rw [Maps.size_put h.nm.1]
          have := h.sn
          split <;> omega
        · intro f hf
          rcases List.mem_append.1 hf with hf | hf
          · exact h.fb f hf
          · rw [List.mem_singleton] at hf; subst hf; exact ⟨by simp, by simp⟩
theorem turnsT : SlT Try.prog 64 76 4 48 := SlT.mk' Try.underlying64 (z := .agg #[.int .i64 0, .int .i64 0, .string ByteArray.empty, .string ByteArray.empty]) (by kernel_rfl) rfl (by decide)
theorem filesT : SlT Try.prog 63 73 1 8 := SlT.mk' Try.underlying63 (z := .pointer none) (by kernel_rfl) rfl (by decide)
set_option maxRecDepth 100000 in
set_option maxHeartbeats 1600000 in
theorem create_any {B : Nat} {h : Hp} {d : Dk} {w : World} (H : DiskAt B h d w) (hok : DkOk d) (hcl : d.calls ≤ 1000000000) (hnf : d.files.length < 1000000) (hnt : d.turns.length < 1000000) (s : List UInt8) (hs : s.length ≤ 9223372036854775807) :
    Calls Try.prog 13 #[.pointer (some ⟨h.g, 0, none⟩), .string (tx s)] w fun e w' => ∃ h', e = .returned (.int .i64 ((createD d s).2 : Int)) ∧ DiskAt B h' (createD d s).1 w' ∧ DkTo h w h' w' := by
  have hb : Rd (w.alloc (.cells #[.string (tx s)] 9)) (w.alloc (.cells #[.string (tx s)] 9)).heap.size 1 (some ⟨w.heap.size, 0, none⟩) 1 (svs [s]) := Rd.box w (.string (tx s)) 9
  have H0 := H.up ((Up.refl w).alloc (.cells #[.string (tx s)] 9))
  have D0 : DkTo h w h (w.alloc (.cells #[.string (tx s)] 9)) := DkTo.up ((Up.refl w).alloc (.cells #[.string (tx s)] 9))
  have hcr : createD d s = createD d s := rfl
  conv at hcr => rhs; unfold createD
  have HCR := Lib.hid hcr
  have hok1 := callN_ok (L := [s]) hok
  have hsame := callN_same [s] d
  have HSM := Lib.hid hsame
  clear hcr hsame
  go_enter Try.func13, Try.ntmps13
  go_wp2_with fail
  refine (call_any H0 hok hcl [s] (some ⟨w.heap.size, 0, none⟩) 1 1 hb (fun x hx => by rw [List.mem_singleton] at hx; subst hx; exact hs) (by omega)).mono ?_
  rintro e w1 ⟨rfl, H1, D1⟩
  have D01 := D0.trans D1
  clear H0 D0 D1 hb
  generalize callN [s] d = r at *
  obtain ⟨d1, ec⟩ := r
  (try dsimp only at *)
  by_cases he : ec ≠ 0
  · have heb : ((ec : Int) != 0) = true := by rw [bne_iff_ne]; omega
    have hcr2 := HCR.out
    rw [if_pos he] at hcr2
    have HC2 := Lib.hid hcr2
    clear hcr2 he
    go_wp2_with fail
    go_ret
    rw [HC2.out]
    exact ⟨h, rfl, H1, D01⟩
  · have heb : ((ec : Int) != 0) = false := by rw [bne_eq_false_iff_eq]; omega
    have hcr2 := HCR.out
    rw [if_neg he] at hcr2
    have HC2 := Lib.hid hcr2
    clear hcr2 he HCR
    obtain ⟨e1, e2, e3, e4, e5, e6, e7, e8⟩ := HSM.out
    go_wp2_with fail
    refine (find_any H1 hok1 s hs).mono ?_
    rintro e w2 ⟨rfl, hfi⟩
    rcases hfi with ⟨hfi, rfl⟩ | ⟨i, f, x, hfi, hf, hx, rfl⟩
    · have hh : Maps.has d.names (nk s) = false := by
        unfold findI at hfi
        rw [e2] at hfi
        split at hfi
        · cases hfi
        · rename_i h9; simpa using h9
      have hcr3 := HC2.out
      rw [if_neg (by rw [hh]; decide)] at hcr3
      have c2 : w1.cell? ⟨h.g, 2, none⟩ = some (.map (some h.nb)) := blk_cell H1.hd 2
      by_cases h64 : 64 ≤ Maps.size d.names
      · rw [if_pos h64] at hcr3
        have HC3 := Lib.hid hcr3
        have h64i : (64 : Int) ≤ (Maps.size d1.names : Int) := by rw [e2]; omega
        clear hcr3 hfi hh h64 e1 e2 e3 e4 e5 HC2
        go_wp2_with (at_len; refine wpList_len_own _ rfl _ 62 rfl 9 3 Try.underlying62 _ h.nb _ d1.names rfl H1.names ?_)
        go_ret
        rw [HC3.out]
        exact ⟨h, rfl, H1, D01⟩
      · rw [if_neg h64] at hcr3
        have HC3 := Lib.hid hcr3
        have h64i : ¬ (64 : Int) ≤ (Maps.size d1.names : Int) := by rw [e2]; omega
        clear hcr3 hfi hh e1 e2 e3 e4 e5 HC2
        go_wp2_with (at_len; refine wpList_len_own _ rfl _ 62 rfl 9 3 Try.underlying62 _ h.nb _ d1.names rfl H1.names ?_)
        have hkey := key_str s hs
        have HK := Lib.hid hkey
        have H2 := H1.up (Up.drew (Up.refl w1))
        have D2 := D01.trans (DkTo.up (h := h) (Up.drew (Up.refl w1)))
        have hsn := hok1.sn
        have c1 : w1.cell? ⟨h.g, 1, none⟩ = some (.slice h.fa d1.files.length h.fc) := blk_cell H1.hd 1
        clear hkey
        go_still_tail 10, (by kernel_rfl)
        change wpList _ _ _ _ _ w1.drew
        generalize w1.drew = w2 at *
        clear c1 c2
        go_upto_region 9 with (at_mapUpdate; refine wpList_mapUpdate_in _ rfl _ _ _ 62 rfl 9 3 strKey Try.underlying62 (plainElem Try.prog 3) h.nb _ d1.names rfl H2.names (by unfold maxLen; omega) _ _ (nk s) rfl rfl HK.out _ [] (plainElem_int Try.underlying3 (WalkArith.wf_i64 (by have := hok1.nf; omega))) ?_; intro w3 hm3 hturn3)
        obtain ⟨H3, D3⟩ := H2.setNames (D' := d1.names.put (nk s) (fiv d1.files.length)) (keepsMap hturn3.grown) hm3
        have D23 := D2.trans D3
        clear H2 D2 D3 hm3 hturn3
        obtain ⟨d3, hd3⟩ : ∃ d3 : Dk, d3 = { d1 with names := d1.names.put (nk s) (fiv d1.files.length) } := ⟨_, rfl⟩
        rw [← hd3] at H3
        have f1 : d3.files = d1.files := by rw [hd3]
        have f4 : d3.turns.length ≤ 1000000 := by rw [hd3]; exact hok1.nt
        have f5 : d3.files.length ≤ 1000000 := by rw [hd3]; exact hok1.nf
        have HD3 := Lib.hid hd3
        clear hd3 hok1 hsn f1
        have hxo : ∀ g, (g = h.g ∨ inA h.ta g) → g < w3.heap.size := by
          rintro g (rfl | hg)
          · exact (H3.lt (.inl rfl)).2
          · exact (inA_own H3.turns hg).2
        have hS : ∀ W, Rg.Keeps (fun g => g = h.g ∨ inA h.ta g) w3.drew W → Rg.Keeps (fun g => g = h.g ∨ inA h.ta g) w3.drew W := fun W hK => hK
        have hbB : B ≤ w3.heap.size := by have := H3.lt (.inl rfl); omega
        apply Rg.region_own 17 _ (fun g => g = h.g ∨ inA h.ta g) (fun W => W.heap[h.g]? = some (.cells (dcs d3 h) 71 (0, 0)) ∧ W.ownsRow B 76 4 (.slice h.ta d3.turns.length h.tc) d3.turns.length (tcs d3.turns)) rfl (by kernel_rfl) (by kernel_rfl) hxo ⟨H3.hd, H3.turns⟩
          (fun v1 v2 hF hs => ⟨(hs.block h.g (Array.getElem?_eq_some_iff.1 hF.1).1 (.inr (.inl rfl))).trans hF.1, row_sta (Y := fun g => (g < w3.heap.size ∧ ¬ (g = h.g ∨ inA h.ta g)) ∨ (g = h.g ∨ inA h.ta g)) hF.2 ⟨hs.size, fun g hg hy => hs.block g hg (hy.elim id (fun ho => .inr (.inr (ob_inA ho))))⟩⟩) hS
        · intro QN hQN
          iterate 4 (apply Rg.RK.ok; (· intro vs w1 hS; go_simp; with_reducible rfl); (· rfl); simp only [Act.put, List.setIfInBounds_toArray, List.set_cons_zero, List.set_cons_succ, Nat.reduceAdd])
          apply Rg.RK.okU [17]
          · intro vs w9 hS9 hf
            obtain ⟨⟨hh, -⟩, -⟩ := hf
            have c4 : w9.cell? ⟨h.g, 4, none⟩ = some (.slice h.ta d3.turns.length h.tc) := blk_cell hh 4
            clear hh hS9
            go_simp
            with_reducible rfl
          · rfl
          simp only [Act.put, List.setIfInBounds_toArray, List.set_cons_zero, List.set_cons_succ, Nat.reduceAdd]
          iterate 3 (apply Rg.RK.ok; (· intro vs w1 hS; go_simp; with_reducible rfl); (· rfl); simp only [Act.put, List.setIfInBounds_toArray, List.set_cons_zero, List.set_cons_succ, Nat.reduceAdd])
          apply Rg.RK.okU [17]
          · intro vs w9 hS9 hf
            obtain ⟨⟨hh, -⟩, -⟩ := hf
            have c1 : w9.cell? ⟨h.g, 1, none⟩ = some (.slice h.fa d3.files.length h.fc) := blk_cell hh 1
            clear hh hS9
            go_simp
            with_reducible rfl
          · rfl
          simp only [Act.put, List.setIfInBounds_toArray, List.set_cons_zero, List.set_cons_succ, Nat.reduceAdd]
          iterate 3 (apply Rg.RK.ok; (· intro vs w1 hS; go_simp; with_reducible rfl); (· rfl); simp only [Act.put, List.setIfInBounds_toArray, List.set_cons_zero, List.set_cons_succ, Nat.reduceAdd])
          have hpc : ∀ y ∈ Tn.cs ⟨1, d3.files.length, s, []⟩, y.oneCell' = true := fun y hy => by
            simp only [Tn.cs, List.mem_cons, List.not_mem_nil, or_false] at hy
            rcases hy with rfl | rfl | rfl | rfl <;> rfl
          apply Rg.RK.opn (fun v W1 => W1.ownsRow w3.heap.size 76 4 v 1 (Tn.cs ⟨1, d3.files.length, s, []⟩)) Rg.ob [] []
          · exact fun v W1 W2 h hs => row_sta h hs
          · rfl
          · intro vs w9 hK hS9 _ K hKK
            go_simp
            exact hKK.out _ _ (row_new w9 _ _ hK.size rfl (by omega)) (Rg.Keeps.of_up ((Up.refl _).alloc _)) (by rintro g rfl; exact ⟨by simp, .inl (Nat.le_refl _)⟩)
          simp only [Act.put, List.setIfInBounds_toArray, List.set_cons_zero, List.set_cons_succ, Nat.reduceAdd]
          apply Rg.RK.opn (fun v W => W.heap[h.g]? = some (.cells (dcs d3 h) 71 (0, 0)) ∧ W.ownsRow B 76 4 v (d3.turns.length + 1) (tcs d3.turns ++ Tn.cs ⟨1, d3.files.length, s, []⟩) ∧ ∀ k, Rg.ob v k → inA h.ta k ∨ w3.heap.size ≤ k) (fun v g => g = h.g ∨ Rg.ob v g) [17, 12] [17]
          · rintro v v1 v2 ⟨f1, f2, f3⟩ hs
            exact ⟨(hs.block h.g (Array.getElem?_eq_some_iff.1 f1).1 (.inr (.inl rfl))).trans f1, row_sta (Y := fun g => (g < w3.drew.heap.size ∧ ¬ (g = h.g ∨ inA h.ta g)) ∨ (g = h.g ∨ Rg.ob v g)) f2 ⟨hs.size, fun g hg hy => hs.block g hg (hy.elim id (fun ho => .inr (.inr ho)))⟩, f3⟩
          · rfl
          · intro vs w9 hK hS9 hf K hKK
            obtain ⟨⟨hh, hrow⟩, h12, -⟩ := hf
            have h12' : w9.ownsRow w3.heap.size 76 4 (vs 12) 1 (Tn.cs ⟨1, d3.files.length, s, []⟩) := h12
            obtain ⟨A12, c12, hv12⟩ := own_form h12'
            rw [hv12] at h12'
            (try dsimp only at hKK ⊢)
            rw [hv12] at hKK ⊢
            refine wp_append_rd _ _ _ turnsT rfl rfl rfl hrow (Rd.own h12') hpc (by omega) (by omega) (Nat.le_trans hbB hK.size) fun v' w5 ho' hg' hat' => ?_
            have hKr := keepsRow hrow hg'
            refine hKK.out _ _ ⟨?_, ho', fun k hk => ?_⟩ (Keeps.weak hKr fun y hy => ⟨17, List.mem_singleton.2 rfl, .inr hy⟩) (fun y hy => ?_)
            · refine (hKr.block h.g (Array.getElem?_eq_some_iff.1 hh).1 (fun hx => ?_)).trans hh
              have h1 := kd_row hrow hx
              rw [kd_cells hh] at h1
              exact absurd h1 (by decide)
            · obtain ⟨A', c', rfl⟩ := own_form ho'
              rcases at_inA hat' k (ob_inA hk) with h9 | h9
              · exact .inl h9
              · exact .inr (Nat.le_trans hK.size h9)
            · rcases hy with rfl | hy
              · exact ⟨Nat.lt_of_lt_of_le (Array.getElem?_eq_some_iff.1 hh).1 hKr.size, .inr ⟨17, List.mem_singleton.2 rfl, .inl rfl⟩⟩
              · obtain ⟨A', c', rfl⟩ := own_form ho'
                refine ⟨(inA_own ho' (ob_inA hy)).2, ?_⟩
                rcases at_inA hat' y (ob_inA hy) with h9 | h9
                · exact .inr ⟨17, List.mem_singleton.2 rfl, .inr h9⟩
                · exact .inl h9
          simp only [Act.put, List.setIfInBounds_toArray, List.set_cons_zero, List.set_cons_succ, Nat.reduceAdd]
          iterate 2 (apply Rg.RK.ok; (· intro vs w1 hS; go_simp; with_reducible rfl); (· rfl); simp only [Act.put, List.setIfInBounds_toArray, List.set_cons_zero, List.set_cons_succ, Nat.reduceAdd])
          apply Rg.RK.opD (fun vs W => ∃ T2 tc2, vs 13 = .slice T2 (d3.turns.length + 1) tc2 ∧ W.heap[h.g]? = some (.cells (dcs { d3 with turns := d3.turns ++ [⟨1, d3.files.length, s, []⟩] } { h with ta := T2, tc := tc2 }) 71 (0, 0)) ∧ W.ownsRow B 76 4 (.slice T2 (d3.turns.length + 1) tc2) (d3.turns.length + 1) (tcs d3.turns ++ Tn.cs ⟨1, d3.files.length, s, []⟩) ∧ ∀ k, inA T2 k → inA h.ta k ∨ w3.heap.size ≤ k) (fun vs g => g = h.g ∨ Rg.ob (vs 13) g) [13] [13] [13] (fun vs vs' h => by rw [h 13 (by simp)]; exact ⟨rfl, rfl⟩)
          · rintro vs v1 v2 ⟨T2, tc2, f0, f1, f2, f3⟩ hs
            exact ⟨T2, tc2, f0, (hs.block h.g (Array.getElem?_eq_some_iff.1 f1).1 (.inr (.inl rfl))).trans f1, row_sta (Y := fun g => (g < w3.drew.heap.size ∧ ¬ (g = h.g ∨ inA h.ta g)) ∨ (g = h.g ∨ Rg.ob (vs 13) g)) f2 ⟨hs.size, fun g hg hy => hs.block g hg (hy.elim id (fun ho => .inr (.inr (by rw [f0]; exact ho))))⟩, f3⟩
          · rfl
          · intro vs w9 hK hS9 hf K hKK
            obtain ⟨h13, -⟩ := hf
            obtain ⟨hh, hrow, hat⟩ := h13
            have hrow' : w9.ownsRow B 76 4 (vs 13) (d3.turns.length + 1) (tcs d3.turns ++ Tn.cs ⟨1, d3.files.length, s, []⟩) := hrow
            obtain ⟨T2, tc2, hv13⟩ := own_form hrow'
            have t4 : w9.cell? ⟨h.g, 4, none⟩ = some (.slice h.ta d3.turns.length h.tc) := blk_cell hh 4
            have s4 := blk_free hh 4
            have hset := setc_heap w9 h.g 4 (.slice T2 (d3.turns.length + 1) tc2) _ _ hh
            have hK9 : Rg.Keeps (fun k => k = h.g) w9 (w9.setCell ⟨h.g, 4, none⟩ (.slice T2 (d3.turns.length + 1) tc2)) := setc_keeps _ _ _ _ _ (Rg.Keeps.refl _ _)
            rw [hv13] at hrow'
            have hat2 : ∀ k, inA T2 k → inA h.ta k ∨ w3.heap.size ≤ k := fun k hk => hat k (by
              show Rg.ob (vs 13) k
              rw [hv13]
              obtain ⟨a, rfl, e⟩ := hk
              exact e)
            have hrow2 := own_keepsX hrow' hK9 (fun k hk e => by
              have h1 := kd_row hrow' hk
              rw [e, kd_cells hh] at h1
              exact absurd h1 (by decide))
            (try dsimp only at hKK ⊢)
            rw [hv13] at hKK ⊢
            have HV := Lib.hid hv13
            have HH := Lib.hid hh
            clear hv13 hat hrow hh
            go_simp
            refine hKK.out undef _ ⟨T2, tc2, ?_, ?_, hrow2, hat2⟩ (Keeps.weak hK9 fun y hy => ⟨13, List.mem_singleton.2 rfl, .inl hy⟩) (fun y hy => ?_)
            · rw [Rg.upd_ne _ _ (by decide)]; exact HV.out
            · rw [hset]
              simp [dcs]
            · have hy' : y = h.g ∨ Rg.ob (vs 13) y := by simpa only [Rg.upd_ne _ _ (show 13 ≠ 16 by decide)] using hy
              rcases hy' with rfl | hy'
              · exact ⟨Nat.lt_of_lt_of_le (Array.getElem?_eq_some_iff.1 HH.out).1 hK9.size, .inr ⟨13, List.mem_singleton.2 rfl, .inl rfl⟩⟩
              · rw [HV.out] at hy'
                refine ⟨(inA_own hrow2 (ob_inA hy')).2, .inr ⟨13, List.mem_singleton.2 rfl, .inr ?_⟩⟩
                show Rg.ob (vs 13) y
                rw [HV.out]; exact hy'
          simp only [Act.put, List.setIfInBounds_toArray, List.set_cons_zero, List.set_cons_succ, Nat.reduceAdd]
          apply Rg.RK.fin [16]
          intro vs w9 hK hS9 hf
          obtain ⟨h16, -⟩ := hf
          obtain ⟨T2, tc2, hv13, hh, hrow, hat⟩ := h16
          refine hQN.out _ _ ?_
          clear hQN hS9
          (try dsimp only)
          rw [hv13]
          have H3d := H3.up (Up.drew (Up.refl w3))
          obtain ⟨H4, K4, F4⟩ := H3d.setTurnsF (d3.turns ++ [⟨1, d3.files.length, s, []⟩]) (m0 := w3.heap.size) hh (by rw [List.length_append]; unfold tcs at hrow ⊢; rw [List.flatMap_append]; simpa using hrow) hK (Nat.le_refl _) hat
          have D4 : DkTo h w { h with ta := T2, tc := tc2 } w9 := D23.trans ⟨rfl, ⟨K4.os, K4.tape, K4.output, K4.size, K4.block⟩, F4⟩
          clear hv13 hh hrow hat hK K4 F4 H3d H3 D23 hxo hS hbB hpc
          have c1 : w9.cell? ⟨h.g, 1, none⟩ = some (.slice h.fa d3.files.length h.fc) := blk_cell H4.hd 1
          have hua : Up w9 (w9.alloc (.cells #[.slice none 0 0, .int .i64 0] 78)) := (Up.refl w9).alloc _
          have hub : Up w9 ((w9.alloc (.cells #[.slice none 0 0, .int .i64 0] 78)).alloc (.cells #[.pointer (some ⟨w9.heap.size, 0, none⟩)] 73)) := hua.alloc _
          have H5 := H4.up hub
          have hf5 : World.ownsRow ((w9.alloc (.cells #[.slice none 0 0, .int .i64 0] 78)).alloc (.cells #[.pointer (some ⟨w9.heap.size, 0, none⟩)] 73)) B 73 1 (.slice h.fa d3.files.length h.fc) d3.files.length (pfs h.fl) := H5.files
          have hbox := Rd.box (w9.alloc (.cells #[.slice none 0 0, .int .i64 0] 78)) (.pointer (some ⟨w9.heap.size, 0, none⟩)) 73
          rw [show (w9.alloc (.cells #[.slice none 0 0, .int .i64 0] 78)).heap.size = w9.heap.size + 1 from World.size_alloc _ _] at hbox
          have hgf : ((w9.alloc (.cells #[.slice none 0 0, .int .i64 0] 78)).alloc (.cells #[.pointer (some ⟨w9.heap.size, 0, none⟩)] 73)).heap[w9.heap.size]? = some (.cells #[.slice none 0 0, .int .i64 0] 78 (0, 0)) := by
            rw [Below.heap_alloc _ _ _ (by simp)]
            exact heap_alloc_new w9 _
          have hgn := fun hk => (H4.lt (k := w9.heap.size) hk).2
          have hbB : B ≤ w9.heap.size := by have := H4.lt (.inl rfl); omega
          have hbB2 : B ≤ ((w9.alloc (.cells #[.slice none 0 0, .int .i64 0] 78)).alloc (.cells #[.pointer (some ⟨w9.heap.size, 0, none⟩)] 73)).heap.size := by rw [World.size_alloc, World.size_alloc]; omega
          have hsz : w9.heap.size ≤ ((w9.alloc (.cells #[.slice none 0 0, .int .i64 0] 78)).alloc (.cells #[.pointer (some ⟨w9.heap.size, 0, none⟩)] 73)).heap.size := hub.size
          have hpp : ∀ y ∈ [Value.pointer (some ⟨w9.heap.size, 0, none⟩)], y.oneCell' = true := fun y hy => by rw [List.mem_singleton] at hy; subst hy; rfl
          go_wp2_with (at_builtin; refine wpList_append_rd _ filesT (news := [.pointer (some ⟨w9.heap.size, 0, none⟩)]) hf5 hbox hpp (by omega) (by omega) hbB2 rfl rfl rfl rfl ?_; intro v3 w6 ho6 hg6 hat6; obtain ⟨F2, fc2, rfl⟩ := own_form ho6; have y1 : w6.cell? ⟨h.g, 1, none⟩ = some (.slice h.fa d3.files.length h.fc) := blk_cell (H5.gkeep (keepsRow hf5 hg6) (fun k hk => by rw [kd_row hf5 hk]; decide)) 1; have z1 := blk_free (H5.gkeep (keepsRow hf5 hg6) (fun k hk => by rw [kd_row hf5 hk]; decide)) 1)
          go_ret
          obtain ⟨H6, K6, F6⟩ := H5.addFile hgf (fun hk => Nat.lt_irrefl _ (hgn hk)) hbB (m0 := w9.heap.size) (Nat.le_refl _) hsz ho6 (keepsRow hf5 hg6) (fun k hk => (at_inA hat6 k hk).imp id (fun h9 => Nat.le_trans hsz h9))
          have D56 : DkTo { h with ta := T2, tc := tc2 } w9 { h with fa := F2, fc := fc2, fl := h.fl ++ [⟨w9.heap.size, none, 0⟩], ta := T2, tc := tc2 } (w6.setCell ⟨h.g, 1, none⟩ (.slice F2 (d3.files.length + 1) fc2)) := ⟨rfl, Keeps.trans2 (Rg.Keeps.of_up hub) K6, F6⟩
          have D6 := D4.trans D56
          rw [HC3.out]
          obtain ⟨e1, e2, e3, e4, -⟩ := HSM.out
          refine ⟨rfl, { h with fa := F2, fc := fc2, fl := h.fl ++ [⟨w9.heap.size, none, 0⟩], ta := T2, tc := tc2 }, ?_, D6⟩
          have hd9 := HD3.out
          subst hd9
          (try dsimp only at H6)
          rw [e1, e2, e4] at H6
          (try dsimp only)
          rw [e1]
          exact H6
        · kernel_rfl
    · have hh : Maps.has d.names (nk s) = true := by
        unfold findI at hfi
        rw [e2] at hfi
        split at hfi
        · assumption
        · cases hfi
      have hcr3 := HC2.out
      rw [if_pos hh] at hcr3
      have HC3 := Lib.hid hcr3
      clear hcr3 hfi hh hf hx e1 e2 e3 e4 e5 HC2
      go_wp2_with fail
      go_ret
      rw [HC3.out]
      exact ⟨h, rfl, H1, D01⟩
end Go.Proofs.Ytebhhfmekmpnkaa

/-
  What a slice reads as, behind a change of blocks that it does not lie in.
-/
namespace Go.Proofs.Ytebhhfmekmpnkaa
open Go.RowKit
set_option linter.unusedVariables false
theorem Rd.keepsX {w w' : World} {B sz n : Nat} {A : Option Addr} {xs : List Value} {X : Nat → Prop} (h : Rd w B sz A n xs) (hB : B ≤ w.heap.size) (hne : ∀ a, A = some a → ¬ X a.block) (hK : Rg.Keeps X w w') : Rd w' w'.heap.size sz A n xs := by
  refine ⟨h.1, fun hn => ?_⟩
  obtain ⟨b, o, rfl, hb, hc⟩ := h.2 hn
  refine ⟨b, o, rfl, Nat.lt_of_lt_of_le (Nat.lt_of_lt_of_le hb hB) hK.size, fun j u hu => ?_⟩
  exact (World.cell?_of_block (hK.block b (Nat.lt_of_lt_of_le hb hB) (hne _ rfl))).trans (hc j u hu)
theorem Rd.keepsX0 {w w' : World} {B sz n : Nat} {A : Option Addr} {xs : List Value} {X : Nat → Prop} (h : Rd w B sz A n xs) (hB : B ≤ w.heap.size) (hne : 0 < n → ∀ a, A = some a → ¬ X a.block) (hK : Rg.Keeps X w w') : Rd w' w'.heap.size sz A n xs := by
  refine ⟨h.1, fun hn => ?_⟩
  exact (h.keepsX hB (hne hn) hK).2 hn
end Go.Proofs.Ytebhhfmekmpnkaa

/-
  Opening arguments: slices of integers as lists of bytes and numbers; bounds of integers.
-/
namespace Go.Proofs.Ytebhhfmekmpnkaa
open Go.ChangeShapes Go.WideShapes Go.ChangeAt Go.RowKit
set_option linter.unusedVariables false

theorem prog_own : ownKnob Try.prog.godebug = none := by kernel_rfl
theorem laidOut : laidOutB Try.prog = true := by kernel_rfl

theorem bd_i64 {x : Int} (h : (Lit.int .i64 x).wf = true) : -9223372036854775808 ≤ x ∧ x ≤ 9223372036854775807 := by
  simpa [Lit.wf, IntKind.min, IntKind.max, IntKind.signed, IntKind.bits] using h
theorem bd_u64 {x : Int} (h : (Lit.int .u64 x).wf = true) : 0 ≤ x ∧ x ≤ 18446744073709551615 := by
  simpa [Lit.wf, IntKind.min, IntKind.max, IntKind.signed, IntKind.bits] using h
theorem bd_u8 {x : Int} (h : (Lit.int .u8 x).wf = true) : 0 ≤ x ∧ x ≤ 255 := by
  simpa [Lit.wf, IntKind.min, IntKind.max, IntKind.signed, IntKind.bits] using h

theorem rd_ints {W : World} {k : IntKind} {α : Type} (val : α → Value) (ofI : Int → α) (hof : ∀ n, (Lit.int k n).wf = true → val (ofI n) = .int k n) {a : Addr} {len cap : Nat} {zs : List Int}
    (hl : len ≤ cap) (hz : zs.length = cap) (hcell : ∀ i, i < zs.length → W.cell? (a.add i) = some (.int k (zs.getD i 0))) (hwz : ∀ n ∈ zs, (Lit.int k n).wf = true) :
    Rd W W.heap.size 1 (some a) len (((zs.take len).map ofI).map val) := by
  have hm : ((zs.take len).map ofI).map val = (zs.take len).map (Value.int k) := by
    rw [List.map_map]
    exact List.map_congr_left fun n hn => hof n (hwz n (List.mem_of_mem_take hn))
  rw [hm]
  refine ⟨by simp; omega, fun hn => ?_⟩
  obtain ⟨b, o, spot⟩ := a
  have hspot : spot = none := by simpa [Addr.add] using World.cell?_spot (hcell 0 (by omega))
  subst hspot
  refine ⟨b, o, rfl, ?_, fun j u hu => ?_⟩
  · have h0 := hcell 0 (by omega)
    have := World.block_lt_of_cell? W _ h0
    simpa [Addr.add] using this
  · have hj : j < len ∧ j < zs.length := by
      have := (List.getElem?_eq_some_iff.1 hu).1
      simp at this; omega
    have e : (⟨b, o, none⟩ : Addr).add j = ⟨b, o + j, none⟩ := by unfold Addr.add; split <;> simp_all
    rw [← e, hcell j hj.2]
    simp [hj.1, hj.2] at hu
    rw [← hu]
    simp [List.getD, hj.2]

/-- a slice of bytes that came in -/
def IsB (w : World) (A : Option Addr) (n c : Nat) (l : List UInt8) : Prop := Rd w w.heap.size 1 A n (bvs l) ∧ n ≤ c ∧ c ≤ 9223372036854775807

section
variable {H : Type} {enc : TypeId × Value → H} {W : World} {sp : Nat → Bool} {a : Option Addr} {len cap : Nat} {d : DataW H} {p : List MemPlace}
theorem is_b (h : DataW.Trod enc Try.prog W 0 (fun _ => true) true 31 (.slice a len cap) d p) : ∃ l, IsB W a len cap l := by
  obtain ⟨fuel, hf⟩ := h
  rcases open_ints Try.underlying31 Try.underlying5 (by kernel_rfl) hf with ⟨hcs, _⟩ | ⟨x, l, c, zs, hcs, _, hl, hm, hz, _, hcell, hwz⟩
  · simp [Value.cells] at hcs
    obtain ⟨rfl, rfl, rfl⟩ := hcs
    exact ⟨[], Rd.empty, by omega, by omega⟩
  · simp [Value.cells] at hcs
    obtain ⟨rfl, rfl, rfl⟩ := hcs
    refine ⟨_, rd_ints bv (fun n => UInt8.ofNat n.toNat) (fun n hn => ?_) hl (by simpa using hz) hcell hwz, hl, by simpa only [maxLen] using hm⟩
    have := bd_u8 hn
    rw [bv_ofNat]; congr 1; omega
end
end Go.Proofs.Ytebhhfmekmpnkaa

/-
  Opening arguments: a slice out of its elements.
-/
namespace Go.Proofs.Ytebhhfmekmpnkaa
open Go.ChangeShapes Go.WideShapes Go.ChangeAt Go.RowKit Go.Deep
set_option linter.unusedVariables false

theorem flat_len {α : Type} (f : α → List Value) {sz : Nat} (hf : ∀ x, (f x).length = sz) (l : List α) : (l.flatMap f).length = l.length * sz := by
  induction l with
  | nil => simp
  | cons x l ih => rw [List.flatMap_cons, List.length_append, hf, ih, List.length_cons, Nat.add_mul]; omega
theorem flat_at {α : Type} (f : α → List Value) {sz : Nat} (hf : ∀ x, (f x).length = sz) (l : List α) {k : Nat} (hk : k < l.length) {j : Nat} (hj : j < sz) : (l.flatMap f)[k * sz + j]? = (f l[k])[j]? := by
  induction l generalizing k with
  | nil => simp at hk
  | cons x l ih =>
    cases k with
    | zero =>
      simp only [List.flatMap_cons, Nat.zero_mul, Nat.zero_add, List.getElem_cons_zero]
      rw [List.getElem?_append_left (by rw [hf]; exact hj)]
    | succ k =>
      have hk' : k < l.length := by simpa using hk
      have := ih hk'
      simp only [List.flatMap_cons, List.getElem_cons_succ]
      rw [List.getElem?_append_right (by rw [hf, Nat.add_mul]; omega), ← this]
      congr 1; rw [hf, Nat.add_mul]; omega

theorem add_at (b o k : Nat) : (⟨b, o, none⟩ : Addr).add k = ⟨b, o + k, none⟩ := by unfold Addr.add; split <;> simp_all
theorem rd_elems {α : Type} [Inhabited α] {W : World} (f : α → List Value) {sz : Nat} (hf : ∀ x, (f x).length = sz) (hsz : 0 < sz) {a : Addr} {len base : Nat}
    (h : ∀ i, i < len → ∃ cs', W.cells? base (a.add (i * sz)) sz = some cs' ∧ ∃ x, cs' = f x) : ∃ l : List α, l.length = len ∧ Rd W W.heap.size sz (some a) len (l.flatMap f) := by
  obtain ⟨g, hg⟩ := choose_lt (p := fun i x => W.cells? base (a.add (i * sz)) sz = some (f x)) (n := len) (fun i hi => by
    obtain ⟨cs', h1, x, rfl⟩ := h i hi
    exact ⟨x, h1⟩)
  refine ⟨(List.range len).map g, by simp, by rw [flat_len f hf]; simp, fun hn => ?_⟩
  obtain ⟨b, o, spot⟩ := a
  have h0 := (World.cells?_some (hg 0 hn)).2.2 0 hsz
  have hx0 : (f (g 0))[0]? = some ((f (g 0))[0]'(by rw [hf]; exact hsz)) := List.getElem?_eq_getElem _
  rw [hx0] at h0
  have add0 : ∀ a : Addr, a.add 0 = a := fun a => by simp [Addr.add]
  rw [Nat.zero_mul, add0, add0] at h0
  have hspot : spot = none := World.cell?_spot h0
  subst hspot
  have hb : b < W.heap.size := World.block_lt_of_cell? W _ h0
  refine ⟨b, o, rfl, hb, fun j u hu => ?_⟩
  have hj : j < len * sz := by
    have := (List.getElem?_eq_some_iff.1 hu).1
    rw [flat_len f hf] at this; simpa using this
  have hi : j / sz < len := by rw [Nat.div_lt_iff_lt_mul hsz]; exact hj
  have hr : j % sz < sz := Nat.mod_lt _ hsz
  have hjj : j = j / sz * sz + j % sz := by rw [Nat.mul_comm]; exact (Nat.div_add_mod j sz).symm
  have hc := (World.cells?_some (hg _ hi)).2.2 _ hr
  have e : ((⟨b, o, none⟩ : Addr).add (j / sz * sz)).add (j % sz) = ⟨b, o + j, none⟩ := by
    rw [add_at, add_at, Nat.add_assoc, ← hjj]
  rw [e] at hc
  have hfl := flat_at f hf ((List.range len).map g) (k := j / sz) (by simpa using hi) hr
  rw [← hjj] at hfl
  rw [hc, ← hu, hfl]
  simp

end Go.Proofs.Ytebhhfmekmpnkaa

/-
  Plain: numbers as bytes: groups of seven bits (numB), eight bytes (eightB).
-/
namespace Go.Proofs.Ytebhhfmekmpnkaa
open Go.RowKit
set_option linter.unusedVariables false

/-- a number in groups of seven bits, the lowest first -/
def numB (n : Nat) : List UInt8 := if n < 128 then [UInt8.ofNat n] else UInt8.ofNat (n % 128 + 128) :: numB (n / 128)
termination_by n
decreasing_by omega

theorem numB_lo {n : Nat} (h : n < 128) : numB n = [UInt8.ofNat n] := by rw [numB, if_pos h]
theorem numB_hi {n : Nat} (h : ¬ n < 128) : numB n = UInt8.ofNat (n % 128 + 128) :: numB (n / 128) := by rw [numB, if_neg h]
theorem numB_pos (n : Nat) : 1 ≤ (numB n).length := by
  rw [numB]; split <;> simp
theorem numB_len (k : Nat) : ∀ n, n < 128 ^ (k + 1) → (numB n).length ≤ k + 1 := by
  induction k with
  | zero => intro n h; rw [numB_lo (by simpa using h)]; simp
  | succ k ih =>
    intro n h
    by_cases hn : n < 128
    · rw [numB_lo hn]; simp
    · rw [numB_hi hn]
      have := ih (n / 128) (by rw [Nat.div_lt_iff_lt_mul (by decide)]; rw [Nat.pow_succ] at h; exact h)
      simp only [List.length_cons]; omega
theorem numB_ten {n : Nat} (h : n < 18446744073709551616) : (numB n).length ≤ 10 := numB_len 9 n (Nat.lt_of_lt_of_le h (by decide))

/-- what Take finds in what is left, i bytes behind the beginning, acc gathered: the number, its bytes, the error -/
def takeGo : List UInt8 → Nat → Nat → Nat × Nat × Nat
  | [], _, _ => (0, 0, 4)
  | c :: r, i, acc =>
    if (i = 9 ∧ 1 < c.toNat) ∨ (0 < i ∧ c.toNat = 0) then (0, 0, 3)
    else if c.toNat < 128 then (acc + c.toNat % 128 * 128 ^ i, i + 1, 0)
    else takeGo r (i + 1) (acc + c.toNat % 128 * 128 ^ i)
def takeL (l : List UInt8) : Nat × Nat × Nat := takeGo l 0 0

theorem pow_le9 {i : Nat} (hi : i ≤ 9) : 128 ^ i ≤ 9223372036854775808 := by
  have : (128 : Nat) ^ i ≤ 128 ^ 9 := Nat.pow_le_pow_right (by decide) hi
  simpa using this
theorem take_step {acc i ch : Nat} (ha : acc < 128 ^ i) : acc + ch % 128 * 128 ^ i < 128 ^ (i + 1) := by
  have h1 : ch % 128 * 128 ^ i ≤ 127 * 128 ^ i := Nat.mul_le_mul_right _ (by omega)
  rw [Nat.pow_succ]; omega
theorem take_fit {acc i ch : Nat} (hi : i ≤ 9) (ha : acc < 128 ^ i) (h9 : i = 9 → ch ≤ 1) : acc + ch % 128 * 128 ^ i < 18446744073709551616 := by
  by_cases h : i = 9
  · subst h
    have h1 : ch % 128 * 128 ^ 9 ≤ 1 * 128 ^ 9 := Nat.mul_le_mul_right _ (by have := h9 rfl; omega)
    have e : (128 : Nat) ^ 9 = 9223372036854775808 := by decide
    rw [e] at *; omega
  · have := take_step (ch := ch) ha
    have h2 := pow_le9 (i := i + 1) (by omega)
    omega
/-- the number that a byte's turn of Take's loop comes to, as the walk spells it -/
theorem take_val {acc i : Nat} {ch : UInt8} (hi : i ≤ 9) (ha : acc < 128 ^ i) (h9 : i = 9 → ch.toNat ≤ 1) :
    bits .or .u64 (acc : Int) (IntKind.u64.wrap (IntKind.u64.wrap (bits .and .u8 (ch.toNat : Int) 127) * 2 ^ (7 * i))) = ((acc + ch.toNat % 128 * 128 ^ i : Nat) : Int) := by
  have hf := take_fit hi ha h9
  have hc : ch.toNat < 256 := ch.toNat_lt
  have e1 : bits .and .u8 (ch.toNat : Int) 127 = ((ch.toNat % 128 : Nat) : Int) := by
    rw [show (127 : Int) = ((127 : Nat) : Int) from rfl, u8_and_nat _ _ hc (by decide), nat_mask7]
  have e2 : (2 : Int) ^ (7 * i) = ((128 ^ i : Nat) : Int) := by rw [Int.natCast_pow, show ((128 : Nat) : Int) = 2 ^ 7 from rfl, ← Int.pow_mul]
  have e3 : IntKind.u64.wrap ((ch.toNat % 128 : Nat) : Int) = ((ch.toNat % 128 : Nat) : Int) := by
    rw [IntKind.wrap_u64]; omega
  rw [e1, e3, e2, ← Int.natCast_mul]
  have e4 : IntKind.u64.wrap ((ch.toNat % 128 * 128 ^ i : Nat) : Int) = ((ch.toNat % 128 * 128 ^ i : Nat) : Int) := by
    rw [IntKind.wrap_u64]; omega
  rw [e4, u64_or_nat _ _ (by omega) (by omega), Nat.or_comm, nat_join (7 * i), Nat.add_comm]
  · rw [Nat.pow_mul]; exact Nat.mul_mod_left _ _
  · rw [Nat.pow_mul]; exact ha

theorem take_val9 {acc : Nat} {ch : UInt8} (ha : acc < 128 ^ 9) (h9 : ch.toNat ≤ 1) :
    bits .or .u64 (acc : Int) (IntKind.u64.wrap (IntKind.u64.wrap (bits .and .u8 (ch.toNat : Int) 127) * 9223372036854775808)) = ((acc + ch.toNat % 128 * 128 ^ 9 : Nat) : Int) := by
  rw [← take_val (i := 9) (by omega) ha (fun _ => h9), show (2 : Int) ^ (7 * 9) = 9223372036854775808 by decide]
theorem rtake_val {acc i : Nat} {ch : UInt8} (hi : i ≤ 9) (ha : acc < 128 ^ i) (h9 : i = 9 → ch.toNat ≤ 1) :
    bits .or .u64 (acc : Int) (IntKind.u64.wrap (bits .and .u64 (ch.toNat : Int) 127 * 2 ^ (7 * i))) = ((acc + ch.toNat % 128 * 128 ^ i : Nat) : Int) := by
  rw [← take_val hi ha h9]
  have hc : ch.toNat < 256 := ch.toNat_lt
  have e1 : bits .and .u8 (ch.toNat : Int) 127 = ((ch.toNat % 128 : Nat) : Int) := by
    rw [show (127 : Int) = ((127 : Nat) : Int) from rfl, u8_and_nat _ _ hc (by decide), nat_mask7]
  have e2 : bits .and .u64 (ch.toNat : Int) 127 = ((ch.toNat % 128 : Nat) : Int) := by
    rw [show (127 : Int) = ((127 : Nat) : Int) from rfl, u64_and_nat _ _ (by omega) (by decide), nat_mask7]
  have e3 : IntKind.u64.wrap ((ch.toNat % 128 : Nat) : Int) = ((ch.toNat % 128 : Nat) : Int) := by
    rw [IntKind.wrap_u64]; omega
  rw [e1, e2, e3]
theorem rtake_val9 {acc : Nat} {ch : UInt8} (ha : acc < 128 ^ 9) (h9 : ch.toNat ≤ 1) :
    bits .or .u64 (acc : Int) (IntKind.u64.wrap (bits .and .u64 (ch.toNat : Int) 127 * 9223372036854775808)) = ((acc + ch.toNat % 128 * 128 ^ 9 : Nat) : Int) := by
  rw [← rtake_val (i := 9) (by omega) ha (fun _ => h9), show (2 : Int) ^ (7 * 9) = 9223372036854775808 by decide]
theorem byte0 (ch : UInt8) : (((ch.toNat : Int) == 0) = true → ch.toNat = 0) ∧ (((ch.toNat : Int) == 0) = false → 0 < ch.toNat) := by
  constructor
  · intro h; have := beq_iff_eq.1 h; omega
  · intro h; have := beq_eq_false_iff_ne.1 h; omega

theorem takeGo_form {c : UInt8} {r : List UInt8} {i acc : Nat} (h : (i = 9 ∧ 1 < c.toNat) ∨ (0 < i ∧ c.toNat = 0)) : takeGo (c :: r) i acc = (0, 0, 3) := by rw [takeGo, if_pos h]
theorem takeGo_end {c : UInt8} {r : List UInt8} {i acc : Nat} (h : ¬ ((i = 9 ∧ 1 < c.toNat) ∨ (0 < i ∧ c.toNat = 0))) (h2 : c.toNat < 128) : takeGo (c :: r) i acc = (acc + c.toNat % 128 * 128 ^ i, i + 1, 0) := by rw [takeGo, if_neg h, if_pos h2]
theorem takeGo_more {c : UInt8} {r : List UInt8} {i acc : Nat} (h : ¬ ((i = 9 ∧ 1 < c.toNat) ∨ (0 < i ∧ c.toNat = 0))) (h2 : ¬ c.toNat < 128) : takeGo (c :: r) i acc = takeGo r (i + 1) (acc + c.toNat % 128 * 128 ^ i) := by rw [takeGo, if_neg h, if_neg h2]

/-! ### signs -/
def signN (n : Int) : Nat := if n < 0 then (-(n + 1)).toNat * 2 + 1 else n.toNat * 2
def unsignZ (n : Nat) : Int := if n % 2 = 0 then ((n / 2 : Nat) : Int) else -((n / 2 : Nat) : Int) - 1
theorem xor_ones (a : Nat) (ha : a < 18446744073709551616) : bits .xor .u64 (a : Int) 18446744073709551615 = ((18446744073709551615 - a : Nat) : Int) := by
  rw [show (18446744073709551615 : Int) = ((18446744073709551615 : Nat) : Int) from rfl, u64_xor_nat _ _ ha (by decide)]
  congr 1
  have h := congrArg BitVec.toNat (BitVec.xor_allOnes (x := BitVec.ofNat 64 a))
  rw [BitVec.toNat_xor, BitVec.toNat_allOnes, BitVec.toNat_not, BitVec.toNat_ofNat, Nat.mod_eq_of_lt (by simpa using ha)] at h
  simpa using h
theorem sign_val (n : Int) (h1 : -9223372036854775808 ≤ n) (h2 : n ≤ 9223372036854775807) :
    bits .xor .u64 (IntKind.u64.wrap (IntKind.u64.wrap n * 2)) (IntKind.u64.wrap (n / 9223372036854775808)) = (signN n : Int) := by
  unfold signN
  by_cases hn : n < 0
  · rw [if_pos hn]
    have e1 : IntKind.u64.wrap (n / 9223372036854775808) = 18446744073709551615 := by rw [IntKind.wrap_u64]; omega
    obtain ⟨a, ha⟩ : ∃ a : Nat, IntKind.u64.wrap (IntKind.u64.wrap n * 2) = (a : Int) := ⟨(IntKind.u64.wrap (IntKind.u64.wrap n * 2)).toNat, by rw [IntKind.wrap_u64]; omega⟩
    have hb : a < 18446744073709551616 := by rw [IntKind.wrap_u64] at ha; omega
    rw [e1, ha, xor_ones a hb]
    rw [IntKind.wrap_u64, IntKind.wrap_u64] at ha
    omega
  · rw [if_neg hn]
    have e1 : IntKind.u64.wrap (n / 9223372036854775808) = ((0 : Nat) : Int) := by rw [IntKind.wrap_u64]; omega
    have e2 : IntKind.u64.wrap (IntKind.u64.wrap n * 2) = ((n.toNat * 2 : Nat) : Int) := by rw [IntKind.wrap_u64, IntKind.wrap_u64]; omega
    rw [e1, e2, u64_xor_nat _ _ (by omega) (by omega), Nat.xor_zero]
theorem xor_i64_ones (a : Nat) (ha : a < 9223372036854775808) : bits .xor .i64 (a : Int) (-1) = -(a : Int) - 1 := by
  have h := congrArg BitVec.toNat (BitVec.xor_allOnes (x := BitVec.ofNat 64 a))
  rw [BitVec.toNat_xor, BitVec.toNat_allOnes, BitVec.toNat_not, BitVec.toNat_ofNat, Nat.mod_eq_of_lt (by omega)] at h
  show IntKind.i64.wrap ((BitVec.ofInt 64 (a : Int) ^^^ BitVec.ofInt 64 (-1)).toNat : Int) = _
  rw [BitVec.toNat_xor, ofInt_u64 a (by omega)]
  have e1 : (BitVec.ofInt 64 (-1)).toNat = 2 ^ 64 - 1 := by decide
  rw [e1, h, IntKind.wrap_i64]
  omega
theorem xor_i64_zero (a : Nat) (ha : a < 9223372036854775808) : bits .xor .i64 (a : Int) 0 = (a : Int) := by
  show IntKind.i64.wrap ((BitVec.ofInt 64 (a : Int) ^^^ BitVec.ofInt 64 0).toNat : Int) = _
  rw [BitVec.toNat_xor, ofInt_u64 a (by omega)]
  have e1 : (BitVec.ofInt 64 0).toNat = 0 := by decide
  rw [e1, Nat.xor_zero, IntKind.wrap_i64]
  omega
theorem unsign_val (n : Nat) (h2 : n < 18446744073709551616) :
    bits .xor .i64 ((n : Int) / 2) (wrap64 (-wrap64 (bits .and .u64 (n : Int) 1))) = unsignZ n := by
  unfold unsignZ
  have e0 : bits .and .u64 (n : Int) 1 = ((n % 2 : Nat) : Int) := by
    rw [show (1 : Int) = ((1 : Nat) : Int) from rfl, u64_and_nat _ _ h2 (by decide), nat_mask1]
  rw [e0, show ((n : Int) / 2) = ((n / 2 : Nat) : Int) by omega]
  by_cases h : n % 2 = 0
  · rw [if_pos h, h]
    rw [show wrap64 (-wrap64 ((0 : Nat) : Int)) = 0 by decide +kernel]
    exact xor_i64_zero (n / 2) (by omega)
  · rw [if_neg h, show n % 2 = 1 by omega]
    rw [show wrap64 (-wrap64 ((1 : Nat) : Int)) = -1 by decide +kernel]
    exact xor_i64_ones (n / 2) (by omega)
theorem signN_lt (n : Int) (h1 : -9223372036854775808 ≤ n) (h2 : n ≤ 9223372036854775807) : signN n < 18446744073709551616 := by unfold signN; split <;> omega
theorem unsign_sign (n : Int) : unsignZ (signN n) = n := by unfold unsignZ signN; split <;> split <;> omega
theorem sign_unsign (n : Nat) : signN (unsignZ n) = n := by unfold unsignZ signN; split <;> split <;> omega
theorem unsignZ_bd (n : Nat) (h : n < 18446744073709551616) : -9223372036854775808 ≤ unsignZ n ∧ unsignZ n ≤ 9223372036854775807 := by unfold unsignZ; split <;> omega

/-! ### eight bytes -/
def eightB (n : Nat) : List UInt8 := (List.range 8).map fun i => UInt8.ofNat (n / 2 ^ (56 - 8 * i))
theorem eightB_len (n : Nat) : (eightB n).length = 8 := by simp [eightB]
theorem eightB_step (n k : Nat) (hk : k < 8) : (eightB n).take k ++ [UInt8.ofNat (n / 2 ^ (56 - 8 * k))] = (eightB n).take (k + 1) := by
  rw [List.take_succ_eq_append_getElem (by simpa [eightB] using hk)]
  simp [eightB]
theorem eight_byte (x k : Nat) : Value.int .u8 ((x : Int) / 2 ^ (56 - 8 * k) % 256) = bv (UInt8.ofNat (x / 2 ^ (56 - 8 * k))) := by
  rw [bv_ofNat]; simp
def foldN (l : List UInt8) : Nat := l.foldl (fun a c => a * 256 + c.toNat) 0
theorem foldN_snoc (l : List UInt8) (c : UInt8) : foldN (l ++ [c]) = foldN l * 256 + c.toNat := by simp [foldN]
theorem foldN_lt (l : List UInt8) : foldN l < 256 ^ l.length := by
  suffices h : ∀ r : List UInt8, foldN r.reverse < 256 ^ r.reverse.length by simpa using h l.reverse
  intro r
  induction r with
  | nil => simp [foldN]
  | cons c r ih =>
    rw [List.reverse_cons, foldN_snoc, List.length_append, List.length_singleton, Nat.pow_succ]
    have := c.toNat_lt
    omega
theorem fold_val {a : Nat} {ch : UInt8} {k : Nat} (hk : k ≤ 7) (ha : a < 256 ^ k) :
    bits .or .u64 (IntKind.u64.wrap ((a : Int) * 256)) (IntKind.u64.wrap (ch.toNat : Int)) = ((a * 256 + ch.toNat : Nat) : Int) := by
  have h7 : (256 : Nat) ^ k ≤ 256 ^ 7 := Nat.pow_le_pow_right (by decide) hk
  have e7 : (256 : Nat) ^ 7 = 72057594037927936 := by decide
  have hc := ch.toNat_lt
  have e1 : IntKind.u64.wrap ((a : Int) * 256) = ((a * 256 : Nat) : Int) := by rw [IntKind.wrap_u64]; omega
  have e2 : IntKind.u64.wrap (ch.toNat : Int) = ((ch.toNat : Nat) : Int) := by rw [IntKind.wrap_u64]; omega
  rw [e1, e2, u64_or_nat _ _ (by omega) (by omega), nat_join 8 _ _ (by omega) (by omega)]
def uneightL (l : List UInt8) : Nat × Nat := if l.length < 8 then (0, 4) else (foldN (l.take 8), 0)

/-! ### lists -/
def numsB (q : List UInt64) : List UInt8 := q.flatMap fun x => numB x.toNat
def listB (q : List UInt64) : List UInt8 := numB q.length ++ numsB q
theorem numsB_snoc (q : List UInt64) (x : UInt64) : numsB (q ++ [x]) = numsB q ++ numB x.toNat := by simp [numsB]
theorem numsB_len (q : List UInt64) : (numsB q).length ≤ 10 * q.length := by
  induction q with
  | nil => simp [numsB]
  | cons x q ih => have := numB_ten x.toNat_lt; simp only [numsB, List.flatMap_cons, List.length_append, List.length_cons] at *; omega

theorem neq0 (e : Nat) : (((e : Int) != 0) = true → e ≠ 0) ∧ (((e : Int) != 0) = false → e = 0) := by
  constructor
  · intro h he; subst he; simp at h
  · intro h
    rcases Nat.eq_zero_or_pos e with h0 | h0
    · exact h0
    · exfalso
      have : ((e : Int) != 0) = true := by rw [bne_iff_ne]; omega
      rw [this] at h; cases h

/-! ### what Take answers -/
theorem takeGo_ok (l : List UInt8) : ∀ (i acc : Nat), i ≤ 9 → acc < 128 ^ i → (takeGo l i acc).2.2 = 0 →
    (takeGo l i acc).1 < 18446744073709551616 ∧ i + 1 ≤ (takeGo l i acc).2.1 ∧ (takeGo l i acc).2.1 ≤ i + l.length ∧ (takeGo l i acc).2.1 ≤ 10 := by
  induction l with
  | nil => intro i acc _ _ h; simp [takeGo] at h
  | cons c r ih =>
    intro i acc hi ha h
    by_cases hf : (i = 9 ∧ 1 < c.toNat) ∨ (0 < i ∧ c.toNat = 0)
    · rw [takeGo_form hf] at h; simp at h
    · by_cases h2 : c.toNat < 128
      · rw [takeGo_end hf h2]
        exact ⟨take_fit hi ha (by omega), by simp, by simp only [List.length_cons]; omega, by simp only; omega⟩
      · rw [takeGo_more hf h2] at h ⊢
        have hi9 : i ≤ 8 := by omega
        obtain ⟨a, b, c', d⟩ := ih (i + 1) _ (by omega) (take_step ha) h
        exact ⟨a, by omega, by simp only [List.length_cons]; omega, d⟩
theorem takeL_ok {l : List UInt8} (h : (takeL l).2.2 = 0) : (takeL l).1 < 18446744073709551616 ∧ 1 ≤ (takeL l).2.1 ∧ (takeL l).2.1 ≤ l.length ∧ (takeL l).2.1 ≤ 10 := by
  unfold takeL at h ⊢
  obtain ⟨a, b, c, d⟩ := takeGo_ok l 0 0 (by omega) (by simp) h
  exact ⟨a, by omega, by simpa using c, d⟩
theorem takeGo_bad (l : List UInt8) : ∀ (i acc : Nat), (takeGo l i acc).2.2 ≠ 0 → (takeGo l i acc).1 = 0 ∧ (takeGo l i acc).2.1 = 0 ∧ ((takeGo l i acc).2.2 = 3 ∨ (takeGo l i acc).2.2 = 4) := by
  induction l with
  | nil => intro i acc _; simp [takeGo]
  | cons c r ih =>
    intro i acc h
    by_cases hf : (i = 9 ∧ 1 < c.toNat) ∨ (0 < i ∧ c.toNat = 0)
    · rw [takeGo_form hf]; simp
    · by_cases h2 : c.toNat < 128
      · rw [takeGo_end hf h2] at h; simp at h
      · rw [takeGo_more hf h2] at h ⊢; exact ih _ _ h
theorem takeL_bad {l : List UInt8} (h : (takeL l).2.2 ≠ 0) : (takeL l).1 = 0 ∧ (takeL l).2.1 = 0 ∧ ((takeL l).2.2 = 3 ∨ (takeL l).2.2 = 4) := takeGo_bad l 0 0 h

/-- what is left of Unlist: k numbers are still to come -/
def unGo : Nat → List UInt8 → Nat → List UInt64 → List UInt64 × Nat × Nat
  | 0, _, at_, acc => (acc, at_, 0)
  | k + 1, l, at_, acc =>
    if (takeL (l.drop at_)).2.2 = 0 then unGo k l (at_ + (takeL (l.drop at_)).2.1) (acc ++ [UInt64.ofNat (takeL (l.drop at_)).1])
    else ([], 0, (takeL (l.drop at_)).2.2)
def unlistL (l : List UInt8) (most : Int) : List UInt64 × Nat × Nat :=
  if (takeL l).2.2 ≠ 0 then ([], 0, (takeL l).2.2)
  else if (if most < 0 then 0 else most) < ((takeL l).1 : Int) then ([], 0, 2)
  else unGo (takeL l).1 l (takeL l).2.1 []

end Go.Proofs.Ytebhhfmekmpnkaa

/-
  Plain laws of numbers as bytes.
-/
namespace Go.Proofs.Ytebhhfmekmpnkaa
open Go.RowKit
set_option linter.unusedVariables false

theorem pow_split (x i : Nat) : x % 128 * 128 ^ i + x / 128 * 128 ^ (i + 1) = x * 128 ^ i := by
  have h := Nat.mod_add_div x 128
  calc x % 128 * 128 ^ i + x / 128 * 128 ^ (i + 1) = (x % 128 + 128 * (x / 128)) * 128 ^ i := by rw [Nat.pow_succ, Nat.add_mul]; congr 1; rw [Nat.mul_comm 128, Nat.mul_assoc, Nat.mul_comm 128]
    _ = x * 128 ^ i := by rw [h]
theorem takeGo_numB (r : List UInt8) : ∀ (n x i acc : Nat), x ≤ n → i ≤ 9 → x < 2 ^ (64 - 7 * i) → (0 < i → 0 < x) → takeGo (numB x ++ r) i acc = (acc + x * 128 ^ i, i + (numB x).length, 0) := by
  intro n
  induction n with
  | zero =>
    intro x i acc hx hi h1 h2
    have h0 : x = 0 := by omega
    subst h0
    have : i = 0 := by rcases Nat.eq_zero_or_pos i with h | h; exact h; exact absurd (h2 h) (by omega)
    subst this
    rw [numB_lo (by omega)]
    exact takeGo_end (by simp) (by decide)
  | succ n ih =>
    intro x i acc hx hi h1 h2
    by_cases hlt : x < 128
    · rw [numB_lo hlt]
      have e : (UInt8.ofNat x).toNat = x := by simp; omega
      rw [List.cons_append, List.nil_append, takeGo_end, e]
      · rw [Nat.mod_eq_of_lt hlt]; rfl
      · rw [e]
        rintro (⟨h9, hx1⟩ | ⟨h0, hx0⟩)
        · subst h9; simp at h1; omega
        · have := h2 h0; omega
      · rw [e]; exact hlt
    · rw [numB_hi hlt]
      have e : (UInt8.ofNat (x % 128 + 128)).toNat = x % 128 + 128 := by simp; omega
      have h8 : i ≤ 8 := by
        rcases Nat.lt_or_ge i 9 with h | h
        · omega
        · have : i = 9 := by omega
          subst this; simp at h1; omega
      rw [List.cons_append, takeGo_more, e, ih (x / 128) (i + 1) _ (by omega) (by omega) ?_ (fun _ => by omega)]
      · rw [show (x % 128 + 128) % 128 = x % 128 by omega, Nat.add_assoc, pow_split, List.length_cons]
        simp only [Prod.mk.injEq, and_true, true_and]; omega
      · rw [Nat.div_lt_iff_lt_mul (by decide), show (128 : Nat) = 2 ^ 7 from rfl, ← Nat.pow_add]
        rw [show 64 - 7 * (i + 1) + 7 = 64 - 7 * i by omega]; exact h1
      · rw [e]; omega
      · rw [e]; omega
theorem takeL_numB (x : Nat) (r : List UInt8) (hx : x < 18446744073709551616) : takeL (numB x ++ r) = (x, (numB x).length, 0) := by
  have := takeGo_numB r x x 0 0 (Nat.le_refl _) (by omega) (by simpa using hx) (fun h => absurd h (by omega))
  unfold takeL
  rw [this]; simp
theorem takeL_nil : takeL [] = (0, 0, 4) := rfl
theorem numsB_drop (q : List UInt64) (k : Nat) : (numsB q).drop (numsB (q.take k)).length = numsB (q.drop k) := by
  have : numsB q = numsB (q.take k) ++ numsB (q.drop k) := by unfold numsB; rw [← List.flatMap_append, List.take_append_drop]
  rw [this, List.drop_left]
theorem numsB_cons (x : UInt64) (q : List UInt64) : numsB (x :: q) = numB x.toNat ++ numsB q := by simp [numsB]
theorem foldN_eightB (x : Nat) (hx : x < 18446744073709551616) : foldN (eightB x) = x := by
  have e : eightB x = [UInt8.ofNat (x / 2 ^ 56), UInt8.ofNat (x / 2 ^ 48), UInt8.ofNat (x / 2 ^ 40), UInt8.ofNat (x / 2 ^ 32), UInt8.ofNat (x / 2 ^ 24), UInt8.ofNat (x / 2 ^ 16), UInt8.ofNat (x / 2 ^ 8), UInt8.ofNat (x / 2 ^ 0)] := rfl
  rw [e]
  simp only [foldN, List.foldl_cons, List.foldl_nil, UInt8.toNat_ofNat']
  omega
theorem uneightL_eightB (x : Nat) (hx : x < 18446744073709551616) : uneightL (eightB x) = (x, 0) := by
  unfold uneightL
  rw [eightB_len, if_neg (by omega), List.take_of_length_le (by rw [eightB_len]; omega), foldN_eightB x hx]
theorem numB_inj {a b : Nat} (ha : a < 18446744073709551616) (hb : b < 18446744073709551616) (h : numB a = numB b) : a = b := by
  have h1 := takeL_numB a [] ha
  have h2 := takeL_numB b [] hb
  rw [h, h2] at h1
  exact (Prod.mk.inj h1).1.symm
theorem numB_mono : ∀ (n a b : Nat), b ≤ n → a ≤ b → (numB a).length ≤ (numB b).length := by
  intro n
  induction n with
  | zero => intro a b hb hab; rw [show a = b by omega]; exact Nat.le_refl _
  | succ n ih =>
    intro a b hb hab
    by_cases h1 : a < 128
    · rw [numB_lo h1]; exact numB_pos b
    · rw [numB_hi h1, numB_hi (show ¬ b < 128 by omega)]
      have := ih (a / 128) (b / 128) (by omega) (Nat.div_le_div_right hab)
      simp only [List.length_cons]; omega
/-- what bytes come to as one number, the highest first -/
def valB : List UInt8 → Nat
  | [] => 0
  | c :: r => c.toNat * 256 ^ r.length + valB r
theorem valB_lt (l : List UInt8) : valB l < 256 ^ l.length := by
  induction l with
  | nil => simp [valB]
  | cons c r ih =>
    have hc := c.toNat_lt
    have h1 : c.toNat * 256 ^ r.length ≤ 255 * 256 ^ r.length := Nat.mul_le_mul_right _ (by omega)
    simp only [valB, List.length_cons, Nat.pow_succ]; omega
theorem foldl_valB (l : List UInt8) : ∀ a : Nat, l.foldl (fun a c => a * 256 + c.toNat) a = a * 256 ^ l.length + valB l := by
  induction l with
  | nil => intro a; simp [valB]
  | cons c r ih =>
    intro a
    rw [List.foldl_cons, ih, valB, List.length_cons, Nat.pow_succ, Nat.add_mul, Nat.mul_assoc, Nat.mul_comm 256, Nat.add_assoc]
theorem foldN_valB (l : List UInt8) : foldN l = valB l := by unfold foldN; rw [foldl_valB]; simp
theorem less_valB : ∀ (l m : List UInt8), l.length = m.length → Op.bytesLess l m = decide (valB l < valB m)
  | [], [], _ => by simp [Op.bytesLess]
  | c :: r, d :: s, h => by
    have hl : r.length = s.length := by simpa using h
    have ih := less_valB r s hl
    have h1 := valB_lt r
    have h2 := valB_lt s
    rw [hl] at h1
    simp only [Op.bytesLess, valB, ih, hl]
    by_cases hcd : c < d
    · have hcd' : c.toNat < d.toNat := UInt8.lt_iff_toNat_lt.1 hcd
      have hm : (c.toNat + 1) * 256 ^ s.length ≤ d.toNat * 256 ^ s.length := Nat.mul_le_mul_right _ hcd'
      rw [Nat.add_mul] at hm
      have : c.toNat * 256 ^ s.length + valB r < d.toNat * 256 ^ s.length + valB s := by omega
      simp [hcd, this]
    · by_cases he : c = d
      · subst he; simp
      · have hcd' : d.toNat < c.toNat := by
          have h3 : ¬ c.toNat < d.toNat := fun h => hcd (UInt8.lt_iff_toNat_lt.2 h)
          have h4 : c.toNat ≠ d.toNat := fun h => he (UInt8.toNat_inj.1 h)
          omega
        have hm : (d.toNat + 1) * 256 ^ s.length ≤ c.toNat * 256 ^ s.length := Nat.mul_le_mul_right _ hcd'
        rw [Nat.add_mul] at hm
        have : ¬ c.toNat * 256 ^ s.length + valB r < d.toNat * 256 ^ s.length + valB s := by omega
        simp [hcd, he, this]
theorem less_eightB {a b : Nat} (ha : a < 18446744073709551616) (hb : b < 18446744073709551616) : Op.bytesLess (eightB a) (eightB b) = decide (a < b) := by
  rw [less_valB _ _ (by rw [eightB_len, eightB_len]), ← foldN_valB, ← foldN_valB, foldN_eightB a ha, foldN_eightB b hb]
theorem eightB_inj {a b : Nat} (ha : a < 18446744073709551616) (hb : b < 18446744073709551616) (h : eightB a = eightB b) : a = b := by
  rw [← foldN_eightB a ha, ← foldN_eightB b hb, h]
/-! ### lists -/
theorem takeGo_cut : ∀ (n x j i acc : Nat), x ≤ n → i ≤ 9 → x < 2 ^ (64 - 7 * i) → (0 < i → 0 < x) → j < (numB x).length → takeGo ((numB x).take j) i acc = (0, 0, 4) := by
  intro n
  induction n with
  | zero =>
    intro x j i acc hx hi h1 h2 hj
    have h0 : x = 0 := by omega
    subst h0
    rw [numB_lo (by omega)] at hj ⊢
    have : j = 0 := by simpa using hj
    subst this
    rfl
  | succ n ih =>
    intro x j i acc hx hi h1 h2 hj
    by_cases hlt : x < 128
    · rw [numB_lo hlt] at hj ⊢
      have : j = 0 := by simpa using hj
      subst this
      rfl
    · rw [numB_hi hlt] at hj ⊢
      have e : (UInt8.ofNat (x % 128 + 128)).toNat = x % 128 + 128 := by simp; omega
      have h8 : i ≤ 8 := by
        rcases Nat.lt_or_ge i 9 with h | h
        · omega
        · have : i = 9 := by omega
          subst this; simp at h1; omega
      cases j with
      | zero => rfl
      | succ j =>
        rw [List.take_succ_cons, takeGo_more, e]
        · refine ih (x / 128) j (i + 1) _ (by omega) (by omega) ?_ (fun _ => by omega) (by simpa using hj)
          rw [Nat.div_lt_iff_lt_mul (by decide), show (128 : Nat) = 2 ^ 7 from rfl, ← Nat.pow_add]
          rw [show 64 - 7 * (i + 1) + 7 = 64 - 7 * i by omega]; exact h1
        · rw [e]; omega
        · rw [e]; omega
theorem takeL_cut {x j : Nat} (hx : x < 18446744073709551616) (hj : j < (numB x).length) : takeL ((numB x).take j) = (0, 0, 4) :=
  takeGo_cut x x j 0 0 (Nat.le_refl _) (by omega) (by simpa using hx) (fun h => absurd h (by omega)) hj
theorem unGo_full (q : List UInt64) : ∀ (pre r : List UInt8) (acc : List UInt64), unGo q.length (pre ++ (numsB q ++ r)) pre.length acc = (acc ++ q, pre.length + (numsB q).length, 0) := by
  induction q with
  | nil => intro pre r acc; simp [unGo, numsB]
  | cons x q ih =>
    intro pre r acc
    rw [List.length_cons, unGo, List.drop_left, numsB_cons, List.append_assoc, takeL_numB _ _ x.toNat_lt]
    have h := ih (pre ++ numB x.toNat) r (acc ++ [UInt64.ofNat x.toNat])
    rw [List.length_append, List.append_assoc] at h
    simp only [if_true]
    rw [h]
    simp [Nat.add_assoc]
theorem unGo_cut (q : List UInt64) : ∀ (pre : List UInt8) (j : Nat) (acc : List UInt64), j < (numsB q).length → unGo q.length (pre ++ (numsB q).take j) pre.length acc = ([], 0, 4) := by
  induction q with
  | nil => intro pre j acc h; simp [numsB] at h
  | cons x q ih =>
    intro pre j acc hj
    rw [numsB_cons] at hj ⊢
    rw [List.length_cons, unGo, List.drop_left]
    by_cases h : j < (numB x.toNat).length
    · rw [List.take_append_of_le_length (by omega), takeL_cut x.toNat_lt h]; simp
    · have e : (numB x.toNat ++ numsB q).take j = numB x.toNat ++ (numsB q).take (j - (numB x.toNat).length) := by
        rw [List.take_append]
        rw [List.take_of_length_le (by omega)]
      rw [e, takeL_numB _ _ x.toNat_lt]
      have h2 := ih (pre ++ numB x.toNat) (j - (numB x.toNat).length) (acc ++ [UInt64.ofNat x.toNat]) (by rw [List.length_append] at hj; omega)
      rw [List.length_append, List.append_assoc] at h2
      simp only [if_true]
      exact h2
theorem unlist_full (q : List UInt64) (r : List UInt8) (most : Int) (hq : q.length < 18446744073709551616) (hm : (q.length : Int) ≤ most) : unlistL (listB q ++ r) most = (q, (listB q).length, 0) := by
  unfold unlistL listB
  rw [List.append_assoc, takeL_numB _ _ hq]
  rw [if_neg (by simp), if_neg (by split <;> omega)]
  rw [unGo_full]
  simp
theorem unlist_long (q : List UInt64) (r : List UInt8) (most : Int) (hq : q.length < 18446744073709551616) (hm : most < (q.length : Int)) (h0 : 0 < q.length) : unlistL (listB q ++ r) most = ([], 0, 2) := by
  unfold unlistL listB
  rw [List.append_assoc, takeL_numB _ _ hq]
  rw [if_neg (by simp), if_pos (by split <;> omega)]
theorem unlist_cut (q : List UInt64) (j : Nat) (most : Int) (hq : q.length < 18446744073709551616) (hm : (q.length : Int) ≤ most) (hj : j < (listB q).length) : unlistL ((listB q).take j) most = ([], 0, 4) := by
  unfold unlistL
  by_cases h : j < (numB q.length).length
  · have e : (listB q).take j = (numB q.length).take j := by unfold listB; rw [List.take_append_of_le_length (by omega)]
    rw [e, takeL_cut hq h]; simp
  · have e : (listB q).take j = numB q.length ++ (numsB q).take (j - (numB q.length).length) := by
      unfold listB; rw [List.take_append, List.take_of_length_le (by omega)]
    rw [e, takeL_numB _ _ hq, if_neg (by simp), if_neg (by split <;> omega)]
    exact unGo_cut q _ _ _ (by unfold listB at hj; rw [List.length_append] at hj; omega)
theorem listB_pos (q : List UInt64) : 1 ≤ (listB q).length := by unfold listB; rw [List.length_append]; have := numB_pos q.length; omega
theorem listB_len (q : List UInt64) (hq : q.length < 18446744073709551616) : (listB q).length ≤ 10 + 10 * q.length := by
  unfold listB; rw [List.length_append]; have := numB_ten hq; have := numsB_len q; omega

theorem unGo_len : ∀ (k : Nat) (l : List UInt8) (a : Nat) (acc : List UInt64), (unGo k l a acc).1.length ≤ acc.length + (l.length - a)
  | 0, l, a, acc => by simp only [unGo]; omega
  | k + 1, l, a, acc => by
    rw [unGo]
    split
    · rename_i h
      have h2 := takeL_ok h
      have h3 := unGo_len k l (a + (takeL (l.drop a)).2.1) (acc ++ [UInt64.ofNat (takeL (l.drop a)).1])
      simp only [List.length_append, List.length_singleton, List.length_drop] at h2 h3
      omega
    · simp
theorem unlistL_len (l : List UInt8) (most : Int) : (unlistL l most).1.length ≤ l.length := by
  have h := unGo_len (takeL l).1 l (takeL l).2.1 []
  simp only [List.length_nil] at h
  unfold unlistL
  by_cases h1 : (takeL l).2.2 ≠ 0
  · rw [if_pos h1]; simp
  · rw [if_neg h1]
    by_cases h2 : (if most < 0 then 0 else most) < ((takeL l).1 : Int)
    · rw [if_pos h2]; simp
    · rw [if_neg h2]; omega

/-! ### numbers that are none -/
/-- a byte more than is needed: the last byte's highest bit set, nought behind it -/
theorem takeGo_more0 : ∀ (n x i acc : Nat), x ≤ n → ∀ l c, numB x = l ++ [c] → takeGo (l ++ [UInt8.ofNat (c.toNat % 128 + 128), 0]) i acc = (0, 0, 3) := by
  intro n
  induction n with
  | zero =>
    intro x i acc hx l c h
    rw [numB_lo (by omega)] at h
    cases l with
    | nil => exact step0 i acc _
    | cons d l => have := congrArg List.length h; simp at this
  | succ n ih =>
    intro x i acc hx l c h
    by_cases hlt : x < 128
    · rw [numB_lo hlt] at h
      cases l with
      | nil => exact step0 i acc _
      | cons d l => have := congrArg List.length h; simp at this
    · rw [numB_hi hlt] at h
      cases l with
      | nil =>
        have h1 := numB_pos (x / 128)
        have := congrArg List.length h; simp at this
        rw [this] at h1; simp at h1
      | cons d l =>
        rw [List.cons_append, List.cons.injEq] at h
        obtain ⟨rfl, h2⟩ := h
        rw [List.cons_append]
        by_cases hf : (i = 9 ∧ 1 < (UInt8.ofNat (x % 128 + 128)).toNat) ∨ (0 < i ∧ (UInt8.ofNat (x % 128 + 128)).toNat = 0)
        · exact takeGo_form hf
        · rw [takeGo_more hf (by simp; omega)]
          exact ih (x / 128) _ _ (by omega) l c h2
where
  step0 (i acc : Nat) (c : UInt8) : takeGo ([] ++ [UInt8.ofNat (c.toNat % 128 + 128), 0]) i acc = (0, 0, 3) := by
    rw [List.nil_append]
    by_cases hf : (i = 9 ∧ 1 < (UInt8.ofNat (c.toNat % 128 + 128)).toNat) ∨ (0 < i ∧ (UInt8.ofNat (c.toNat % 128 + 128)).toNat = 0)
    · exact takeGo_form hf
    · rw [takeGo_more hf (by simp; omega)]
      exact takeGo_form (.inr ⟨by omega, rfl⟩)
theorem takeL_more0 {x : Nat} {l : List UInt8} {c : UInt8} (h : numB x = l ++ [c]) : takeL (l ++ [UInt8.ofNat (c.toNat % 128 + 128), 0]) = (0, 0, 3) :=
  takeGo_more0 x x 0 0 (Nat.le_refl _) l c h
theorem takeL_great (c : UInt8) (h : 1 < c.toNat) : takeL [255, 255, 255, 255, 255, 255, 255, 255, 255, c] = (0, 0, 3) := by
  unfold takeL
  iterate 9 (rw [takeGo_more (by decide) (by decide)])
  exact takeGo_form (.inl ⟨rfl, h⟩)

/-! ### a mask -/
theorem i64_and_le (a : Int) (m : Nat) (hm : m < 9223372036854775808) : ∃ k : Nat, bits .and .i64 a (m : Int) = (k : Int) ∧ k ≤ m := by
  refine ⟨(BitVec.ofInt 64 a).toNat &&& m, ?_, Nat.and_le_right⟩
  have hk : (BitVec.ofInt 64 a).toNat &&& m ≤ m := Nat.and_le_right
  show IntKind.i64.wrap ((BitVec.ofInt 64 a &&& BitVec.ofInt 64 (m : Int)).toNat : Int) = _
  rw [BitVec.toNat_and, ofInt_u64 m (by omega), IntKind.wrap_i64]
  omega
end Go.Proofs.Ytebhhfmekmpnkaa

/-
  A law for regions that draw their order: the operations that change memory stand in a chain, all others read what no one of them changes. What is known of memory is told by how many of the chain have come up.
-/
namespace Go.Proofs.Ytebhhfmekmpnkaa.Rg
open Go Go.CheckFast Go.RowKit
set_option linter.unusedVariables false

structure COut where
  idx : Nat
  ch : Bool
  gs : Option (Nat × Tmp)
def chainChk (ops : Array Oper) : List Nat → List COut → Bool
  | _, [] => true
  | seen, x :: r => (gsChk ops x.gs && (bif x.ch then seen.all (maskOf ops x.idx) else true)) && chainChk ops (bif x.ch then x.idx :: seen else seen) r

section
variable (P : Program) (QN : Act → World → Prop) (St : Nat → Vs → World → Prop)
inductive RC : List Oper → Nat → Nat → (Vs → Act) → List COut → Prop
  | done {k j : Nat} {b : Vs → Act} (h : ∀ vs w, St j vs w → QN (b vs) w) : RC [] k j b []
  | read {o : Oper} {rest : List Oper} {k j : Nat} {b : Vs → Act} {out : List COut} (v : Value) (gs : Option (Nat × Tmp))
      (h : ∀ i vs w, St i vs w → ∃ x, (Want o gs (b vs) x ∨ (x = false ∧ Unasked o gs (b vs))) ∧ ∀ K : Act → World → Prop, Shut (∀ w', St i vs w' → K ((b vs).put o.dst v) w') →
        if x = true then o.wp P (b vs) w K (fun _ _ _ => False) else K ((b vs).put o.dst undef) w)
      (hr : RC rest (k + 1) j (fun vs => (b vs).put o.dst v) out) : RC (o :: rest) k j b (⟨k, false, gs⟩ :: out)
  | cl {o : Oper} {rest : List Oper} {k j : Nat} {b : Vs → Act} {out : List COut} (v : Value) (gs : Option (Nat × Tmp))
      (h : ∀ vs w, St j vs w → ∃ x, (Want o gs (b vs) x ∨ (x = false ∧ Unasked o gs (b vs))) ∧ ∀ K : Act → World → Prop, Shut (∀ w', St (j + 1) vs w' → K ((b vs).put o.dst v) w') →
        if x = true then o.wp P (b vs) w K (fun _ _ _ => False) else K ((b vs).put o.dst undef) w)
      (hr : RC rest (k + 1) (j + 1) (fun vs => (b vs).put o.dst v) out) : RC (o :: rest) k j b (⟨k, true, gs⟩ :: out)
  | op {o : Oper} {rest : List Oper} {k j : Nat} {b : Vs → Act} {out : List COut} (gs : Option (Nat × Tmp))
      (h : ∀ vs w, St j vs w → ∃ x, (Want o gs (b vs) x ∨ (x = false ∧ Unasked o gs (b vs))) ∧ ∀ K : Act → World → Prop, Shut (∀ v w', St (j + 1) (upd vs k v) w' → K ((b vs).put o.dst v) w') →
        if x = true then o.wp P (b vs) w K (fun _ _ _ => False) else K ((b vs).put o.dst undef) w)
      (hr : RC rest (k + 1) (j + 1) (fun vs => (b vs).put o.dst (vs k)) out) : RC (o :: rest) k j b (⟨k, true, gs⟩ :: out)
end

inductive OpC where
  | rd (v : Value)
  | cl (v : Value)
  | op
def OpC.toD : OpC → OpD
  | .rd v => .cl v []
  | .cl v => .cl v []
  | .op => .opn (fun _ _ => True) (fun _ _ => False) [] []
def OpC.isCh : OpC → Bool
  | .rd _ => false
  | _ => true
def cnt (D : List OpC) : Nat := D.countP OpC.isCh
def cntL : List OpC → Array Bool → Nat → Nat
  | [], _, _ => 0
  | d :: r, l, k => (if d.isCh = true ∧ l.getD k false = true then 1 else 0) + cntL r l (k + 1)
theorem cntL_same : ∀ (D : List OpC) (l l' : Array Bool) (k : Nat), (∀ c d, D[c]? = some d → d.isCh = true → l'.getD (k + c) false = l.getD (k + c) false) → cntL D l' k = cntL D l k
  | [], _, _, _, _ => rfl
  | d :: r, l, l', k, h => by
    unfold cntL
    rw [cntL_same r l l' (k + 1) (fun c d' hd hc => by
      have := h (c + 1) d' (by simpa using hd) hc
      rwa [show k + (c + 1) = k + 1 + c by omega] at this)]
    congr 1
    cases hd : d.isCh with
    | false => simp
    | true =>
      have h1 := h 0 d rfl hd
      rw [Nat.add_zero] at h1
      rw [h1]
theorem cntL_pre : ∀ (D : List OpC) (l : Array Bool) (k i : Nat), (∀ c d, D[c]? = some d → d.isCh = true → (l.getD (k + c) false = true ↔ k + c < i)) → cntL D l k = cnt (D.take (i - k))
  | [], _, _, _, _ => by simp [cntL, cnt]
  | d :: r, l, k, i, h => by
    unfold cntL
    have ih := cntL_pre r l (k + 1) i (fun c d' hd hc => by
      have := h (c + 1) d' (by simpa using hd) hc
      rwa [show k + (c + 1) = k + 1 + c by omega] at this)
    rw [ih]
    by_cases hk : k < i
    · rw [show i - k = (i - (k + 1)) + 1 by omega, List.take_succ_cons]
      unfold cnt
      rw [List.countP_cons, Nat.add_comm]
      congr 1
      cases hd : d.isCh with
      | false => simp
      | true =>
        have h1 := (h 0 d rfl hd).2 (by omega)
        rw [Nat.add_zero] at h1
        simp [h1]
    · rw [show i - k = 0 by omega, show i - (k + 1) = 0 by omega, List.take_zero, List.take_zero]
      cases hd : d.isCh with
      | false => simp [cnt]
      | true =>
        have h1 := h 0 d rfl hd
        rw [Nat.add_zero] at h1
        rw [if_neg (fun h9 => hk (h1.1 h9.2))]
        simp [cnt]

def AskedC (P : Program) (ops : Array Oper) (St : Nat → Vs → World → Prop) (a0 : Act) (D : List OpC) (k : Nat) (o : Oper) : OpC → Prop
  | .rd v => ∀ i vs w, St i vs w → Runs P ops o (bGo ops vs (D.map OpC.toD) 0 a0) w fun v' w' => v' = v ∧ St i vs w'
  | .cl v => (∀ c d, D[c]? = some d → d.isCh = true → Pre ops c k) ∧ ∀ vs w, St (cnt D) vs w → Runs P ops o (bGo ops vs (D.map OpC.toD) 0 a0) w fun v' w' => v' = v ∧ St (cnt D + 1) vs w'
  | .op => (∀ c d, D[c]? = some d → d.isCh = true → Pre ops c k) ∧ ∀ vs w, St (cnt D) vs w → Runs P ops o (bGo ops vs (D.map OpC.toD) 0 a0) w fun v w' => St (cnt D + 1) (upd vs k v) w'

section
variable {P : Program} {ops : Array Oper} {Q : Exit → Act → World → Prop} {QN : Act → World → Prop} {St : Nat → Vs → World → Prop} {a0 : Act}

theorem runs_of {o : Oper} {gs : Option (Nat × Tmp)} {a : Act} {w : World} {R : Value → World → Prop} (hc : gsChk ops gs = true)
    (h : ∃ x, (Want o gs a x ∨ (x = false ∧ Unasked o gs a)) ∧ ∀ K : Act → World → Prop, (∀ v w', R v w' → K (a.put o.dst v) w') → if x = true then o.wp P a w K (fun _ _ _ => False) else K (a.put o.dst undef) w) : Runs P ops o a w R := by
  obtain ⟨x, hx, hw⟩ := h
  intro K hK
  have hwant : Region.wanted o (yielded ops a.tmps) = x := by
    rcases hx with hx | ⟨rfl, hx⟩
    · exact want_of hx hc
    · exact unasked_of hx hc
  rw [hwant]
  exact hw K hK

theorem RC.data (hQ : ∀ a w, QN a w → Q .normal a w) {rest : List Oper} {k j : Nat} {b : Vs → Act} {out : List COut} (h : RC P QN St rest k j b out) :
    ∀ (D : List OpC) (seen : List Nat), D.length = k → j = cnt D → (∀ c d, D[c]? = some d → d.isCh = true → c ∈ seen) → chainChk ops seen out = true → (∀ vs, b vs = bGo ops vs (D.map OpC.toD) 0 a0) → ops.toList.drop k = rest → k ≤ ops.size →
    ∃ E : List OpC, (D ++ E).length = ops.size ∧ (∀ j o d, E[j]? = some d → ops[k + j]? = some o → AskedC P ops St a0 (D ++ E.take j) (k + j) o d) ∧
      ∀ vs w, St (cnt (D ++ E)) vs w → Q .normal (bGo ops vs ((D ++ E).map OpC.toD) 0 a0) w := by
  have go : ∀ (o : Oper) (rest : List Oper) (D : List OpC) (d : OpC) (b : Vs → Act), ops.toList.drop D.length = o :: rest → (∀ vs, b vs = bGo ops vs (D.map OpC.toD) 0 a0) → AskedC P ops St a0 D D.length o d →
      (∀ D', D' = D ++ [d] → (∀ vs, (b vs).put o.dst (d.toD.val D.length vs) = bGo ops vs (D'.map OpC.toD) 0 a0) → D.length + 1 ≤ ops.size → ops.toList.drop (D.length + 1) = rest → ∃ E : List OpC, (D' ++ E).length = ops.size ∧ (∀ j o d, E[j]? = some d → ops[D.length + 1 + j]? = some o → AskedC P ops St a0 (D' ++ E.take j) (D.length + 1 + j) o d) ∧
        ∀ vs w, St (cnt (D' ++ E)) vs w → Q .normal (bGo ops vs ((D' ++ E).map OpC.toD) 0 a0) w) →
      ∃ E : List OpC, (D ++ E).length = ops.size ∧ (∀ j o d, E[j]? = some d → ops[D.length + j]? = some o → AskedC P ops St a0 (D ++ E.take j) (D.length + j) o d) ∧
        ∀ vs w, St (cnt (D ++ E)) vs w → Q .normal (bGo ops vs ((D ++ E).map OpC.toD) 0 a0) w := by
    intro o rest D d b hr hb hA ih
    have ho : ops.toList[D.length]? = some o := by
      have := congrArg List.head? hr
      rwa [List.head?_drop, List.head?_cons] at this
    have ho' : ops[D.length]? = some o := by simpa using ho
    obtain ⟨E, h1, h2, h3⟩ := ih _ rfl (fun vs => by
        rw [List.map_append, bGo_append, ← hb, Nat.zero_add, List.length_map]
        show _ = (b vs).put (dstOf ops D.length) _
        rw [dstOf, ho']
        rfl) (Array.getElem?_eq_some_iff.1 ho').1 (by rw [← List.drop_drop, hr]; rfl)
    refine ⟨d :: E, by simpa using h1, fun j o' d' hj hoj => ?_, ?_⟩
    · cases j with
      | zero =>
        obtain rfl : d = d' := by simpa using hj
        rw [Nat.add_zero] at hoj ⊢
        rw [ho'] at hoj
        injection hoj with hoj
        subst hoj
        rw [List.take_zero, List.append_nil]
        exact hA
      | succ j =>
        have := h2 j o' d' (by simpa using hj) (by rw [← hoj]; congr 1; omega)
        rw [List.take_succ_cons]
        rw [show D.length + (j + 1) = D.length + 1 + j by omega]
        rwa [List.append_assoc] at this
    · intro vs w hS
      have e : D ++ d :: E = D ++ [d] ++ E := by rw [List.append_assoc]; rfl
      rw [e] at hS ⊢
      exact h3 vs w hS
  have chain : ∀ (D : List OpC) (seen : List Nat) (k : Nat), (∀ c d, D[c]? = some d → d.isCh = true → c ∈ seen) → seen.all (maskOf ops k) = true → ∀ c d, D[c]? = some d → d.isCh = true → Pre ops c k := fun D seen k hs hm c d hd hc => pre_of (List.all_eq_true.1 hm c (hs c d hd hc))
  have more : ∀ (D : List OpC) (seen : List Nat) (d : OpC), (∀ c d, D[c]? = some d → d.isCh = true → c ∈ seen) → ∀ c d', (D ++ [d])[c]? = some d' → d'.isCh = true → c ∈ (bif d.isCh then D.length :: seen else seen) := by
    intro D seen d hs c d' hd hc
    rcases Nat.lt_or_ge c D.length with hlt | hge
    · rw [List.getElem?_append_left hlt] at hd
      have := hs c d' hd hc
      cases d.isCh
      · exact this
      · exact List.mem_cons_of_mem _ this
    · rw [List.getElem?_append_right hge] at hd
      have hz : c - D.length = 0 := by
        rcases Nat.eq_zero_or_pos (c - D.length) with h | h
        · exact h
        · rw [List.getElem?_eq_none (by simp; omega)] at hd; cases hd
      rw [hz] at hd
      obtain rfl : d = d' := by simpa using hd
      rw [hc]
      have : c = D.length := by omega
      rw [this]
      exact List.mem_cons_self
  induction h with
  | @done k j b h =>
    rintro D seen rfl rfl hs hc hb hr hle
    refine ⟨[], ?_, fun j o d hj => by simp at hj, fun vs w hS => ?_⟩
    · have h1 : ops.toList.length ≤ D.length := List.drop_eq_nil_iff.1 hr
      rw [Array.length_toList] at h1
      rw [List.append_nil]; omega
    · rw [List.append_nil] at hS ⊢
      rw [← hb]
      exact hQ _ _ (h vs w hS)
  | @read o rest k j b out v gs h hr ih =>
    rintro D seen rfl rfl hs hc hb hrest hle
    simp only [chainChk, Bool.and_eq_true, cond_false] at hc
    refine go o rest D (.rd v) b hrest hb (fun i vs w hS => ?_) ?_
    · rw [← hb]
      refine runs_of hc.1.1 ?_
      obtain ⟨x, hx, hw⟩ := h i vs w hS
      exact ⟨x, hx, fun K hK => hw K (fun w' hw' => hK v w' ⟨rfl, hw'⟩)⟩
    · rintro D' rfl hb' hle' hr'
      exact ih (D ++ [OpC.rd v]) seen (by simp) (by simp [cnt, OpC.isCh]) (more D seen (.rd v) hs) hc.2 hb' hr' hle'
  | @cl o rest k j b out v gs h hr ih =>
    rintro D seen rfl rfl hs hc hb hrest hle
    simp only [chainChk, Bool.and_eq_true, cond_true] at hc
    refine go o rest D (.cl v) b hrest hb ⟨chain D seen _ hs hc.1.2, fun vs w hS => ?_⟩ ?_
    · rw [← hb]
      refine runs_of hc.1.1 ?_
      obtain ⟨x, hx, hw⟩ := h vs w hS
      exact ⟨x, hx, fun K hK => hw K (fun w' hw' => hK v w' ⟨rfl, hw'⟩)⟩
    · rintro D' rfl hb' hle' hr'
      exact ih (D ++ [OpC.cl v]) (D.length :: seen) (by simp) (by simp [cnt, OpC.isCh]) (more D seen (.cl v) hs) hc.2 hb' hr' hle'
  | @op o rest k j b out gs h hr ih =>
    rintro D seen rfl rfl hs hc hb hrest hle
    simp only [chainChk, Bool.and_eq_true, cond_true] at hc
    refine go o rest D .op b hrest hb ⟨chain D seen _ hs hc.1.2, fun vs w hS => ?_⟩ ?_
    · rw [← hb]
      refine runs_of hc.1.1 ?_
      obtain ⟨x, hx, hw⟩ := h vs w hS
      exact ⟨x, hx, fun K hK => hw K (fun v w' hw' => hK v w' hw')⟩
    · rintro D' rfl hb' hle' hr'
      exact ih (D ++ [OpC.op]) (D.length :: seen) (by simp) (by simp [cnt, OpC.isCh]) (more D seen .op hs) hc.2 hb' hr' hle'

structure InvC (ops : Array Oper) (St : Nat → Vs → World → Prop) (a0 : Act) (D : List OpC) (listed : Array Bool) (a : Act) (w : World) (vs : Vs) : Prop where
  size : listed.size = ops.size
  down : ∀ i p, listed.getD i false = true → Pre ops p i → listed.getD p false = true
  defers : a.defers = a0.defers
  tsize : a.tmps.size = a0.tmps.size
  slot : ∀ i t d, listed.getD i false = true → dstOf ops i = some t → t < a0.tmps.size → D[i]? = some d → a.tmps[t]? = some (d.toD.val i vs)
  other : ∀ t, (∀ i, listed.getD i false = true → dstOf ops i ≠ some t) → a.tmps[t]? = a0.tmps[t]?
  st : St (cntL D listed 0) vs w

theorem InvC.step {D : List OpC} (hg : globChk ops = true) (hD : D.length = ops.size) (hA : ∀ j o d, D[j]? = some d → ops[j]? = some o → AskedC P ops St a0 (D.take j) j o d)
    {listed : Array Bool} {a : Act} {w : World} {vs : Vs} (hI : InvC ops St a0 D listed a w vs) {i : Nat} (hi : i ∈ Region.ready .any ops listed) :
    wpOp P ops Q i (fun a' w' => ∃ vs', InvC ops St a0 D (listed.setIfInBounds i true) a' w' vs') a w := by
  simp only [globChk, Bool.and_eq_true] at hg
  obtain ⟨⟨⟨hsel, hlook⟩, hdist⟩, htopo⟩ := hg
  obtain ⟨hun, o, ho, hafter⟩ := mem_ready.1 hi
  have hilt : i < ops.size := (Array.getElem?_eq_some_iff.1 ho).1
  have hisz : i < listed.size := by rw [hI.size]; exact hilt
  have hun' : listed.getD i false = false := by
    simp only [Array.getD_eq_getD_getElem?, Array.getElem?_eq_getElem hisz] at hun ⊢
    exact hun
  have hpre : ∀ p, Pre ops p i → listed.getD p false = true := by
    intro p hp
    cases hp with
    | edge ho' he hb => rw [ho] at ho'; injection ho' with ho'; subst ho'; exact hafter _ he hb
    | more ho' he hb hp => rw [ho] at ho'; injection ho' with ho'; subst ho'; exact hI.down _ _ (hafter _ he hb) hp
  obtain ⟨d, hd⟩ : ∃ d, D[i]? = some d := ⟨_, List.getElem?_eq_getElem (by rw [hD]; exact hilt)⟩
  have hask := hA i o d hd ho
  have hdst : dstOf ops i = o.dst := by rw [dstOf, ho]; rfl
  have hmapget : ∀ (L : List OpC) (j : Nat) (dj : OpC), L[j]? = some dj → (L.map OpC.toD)[j]? = some dj.toD := fun L j dj h => by rw [List.getElem?_map, h]; rfl
  have hagree : ∀ t, t ∈ o.looksAt ops → a.tmps[t]? = (bGo ops vs ((D.take i).map OpC.toD) 0 a0).tmps[t]? := by
    intro t ht
    by_cases hex : ∃ j, dstOf ops j = some t
    · obtain ⟨j, hj⟩ := hex
      have notI : ∀ j', dstOf ops j' = some t → j' = j := fun j' h => dist_of hdist _ _ _ h hj
      have later : listed.getD j false = false → i ≤ j → a.tmps[t]? = (bGo ops vs ((D.take i).map OpC.toD) 0 a0).tmps[t]? := fun hl hij => by
        rw [hI.other t (fun j' h1 h2 => by rw [notI j' h2, hl] at h1; cases h1), bGo_other ops vs t _ _ _ (fun j' _ h2 h3 => by
          have := notI j' h3
          rw [List.length_map, List.length_take] at h2
          omega)]
      rcases look_of hlook ho ht hj with rfl | ⟨hlt, hp⟩ | ⟨hlt, hp⟩
      · exact later hun' (Nat.le_refl _)
      · obtain ⟨dj, hdj⟩ : ∃ d, D[j]? = some d := ⟨_, List.getElem?_eq_getElem (by rw [hD]; omega)⟩
        by_cases hts : t < a0.tmps.size
        · rw [hI.slot j t dj (hpre _ hp) hj hts hdj]
          rw [bGo_at ops vs (fun i j t => dist_of hdist i j t) t j hj dj.toD ((D.take i).map OpC.toD) 0 a0 (Nat.zero_le _) (by rw [Nat.sub_zero]; exact hmapget _ _ _ (by rw [List.getElem?_take, if_pos hlt, hdj])) hts]
        · have hts' : a0.tmps.size ≤ t := Nat.le_of_not_lt hts
          rw [Array.getElem?_eq_none (by rw [hI.tsize]; exact hts'), Array.getElem?_eq_none (by rw [bGo_size]; exact hts')]
      · refine later ?_ (by omega)
        cases hl : listed.getD j false
        · rfl
        · have := hI.down _ _ hl hp
          rw [hun'] at this; cases this
    · rw [hI.other t (fun j h1 h2 => hex ⟨j, h2⟩), bGo_other ops vs t _ _ _ (fun j _ _ h3 => hex ⟨j, h3⟩)]
  have hsize : a.tmps.size = (bGo ops vs ((D.take i).map OpC.toD) 0 a0).tmps.size := by rw [bGo_size, hI.tsize]
  have hexec : execOp a.eval o = execOp (bGo ops vs ((D.take i).map OpC.toD) 0 a0).eval o := exec_agree (fun cs b => Region.noSelect_spec hsel i o cs b ho) hagree
  have hwant := wanted_agree hagree
  have hgi : (listed.setIfInBounds i true).getD i false = true := by simp [hisz]
  have hne : ∀ c, c ≠ i → (listed.setIfInBounds i true).getD c false = listed.getD c false := fun c hc => getD_set_ne false (Ne.symm hc)
  -- what is behind the operation
  have hafterI : ∀ vs' v w', (∀ j, j ≠ i → vs' j = vs j) → d.toD.val i vs' = v → St (cntL D (listed.setIfInBounds i true) 0) vs' w' → ∃ vs', InvC ops St a0 D (listed.setIfInBounds i true) (a.put o.dst v) w' vs' := by
    intro vs' v w' hvs hval hst
    refine ⟨vs', ⟨by simpa using hI.size, ?_, by rw [put_defers]; exact hI.defers, by rw [put_size]; exact hI.tsize, ?_, ?_, hst⟩⟩
    · intro j p hj hp
      rcases listed_set hj with rfl | hj
      · exact getD_set_true (hpre p hp)
      · exact getD_set_true (hI.down _ _ hj hp)
    · intro j t dj hj hjt hts hdj
      by_cases hji : j = i
      · subst hji
        rw [hd] at hdj; injection hdj with hdj; subst hdj
        rw [← hdst, hjt, put_at _ _ _ (by rw [hI.tsize]; exact hts), hval]
      · rcases listed_set hj with rfl | hj
        · exact absurd rfl hji
        · rw [put_other _ _ _ _ (fun e => hji (dist_of hdist j i t hjt (by rw [hdst, e]))), hI.slot j t dj hj hjt hts hdj]
          cases dj with
          | rd v => rfl
          | cl v => rfl
          | op => show some (vs j) = some (vs' j); rw [hvs j hji]
    · intro t ht
      have hti : o.dst ≠ some t := by
        rw [← hdst]
        exact ht i hgi
      rw [put_other _ _ _ _ hti, hI.other t (fun j hj => ht j (getD_set_true hj))]
  have hrunP : ∀ {R : Value → World → Prop}, Runs P ops o (bGo ops vs ((D.take i).map OpC.toD) 0 a0) w R → (∀ v w', R v w' → ∃ vs', InvC ops St a0 D (listed.setIfInBounds i true) (a.put o.dst v) w' vs') → wpOp P ops Q i (fun a' w' => ∃ vs', InvC ops St a0 D (listed.setIfInBounds i true) a' w' vs') a w := by
    intro R hrun fin
    have hr := hrun (fun a' w' => ∃ v', a' = (bGo ops vs ((D.take i).map OpC.toD) 0 a0).put o.dst v' ∧ R v' w') (fun v w' h => ⟨v, rfl, h⟩)
    unfold wpOp
    simp only [ho]
    rw [hwant]
    split
    · rename_i hw
      rw [if_pos hw] at hr
      refine .inl (wp_false (Oper.wp_mono (fun a' w' h => ?_) (wp_move hsize hexec hr)))
      obtain ⟨v, rfl, h⟩ := h
      exact fin v w' h
    · rename_i hw
      rw [if_neg hw] at hr
      obtain ⟨v, hv, h⟩ := hr
      rw [put_same hsize hv]
      exact fin v w h
  -- how many of the chain have come up
  have hcount : d.isCh = true → (∀ c dc, (D.take i)[c]? = some dc → dc.isCh = true → Pre ops c i) → cntL D listed 0 = cnt (D.take i) ∧ cntL D (listed.setIfInBounds i true) 0 = cnt (D.take i) + 1 := by
    intro hch hchain
    have key : ∀ c dc, D[c]? = some dc → dc.isCh = true → c ≠ i → (listed.getD c false = true ↔ c < i) := by
      intro c dc hdc hcc hci
      constructor
      · intro hl
        rcases Nat.lt_or_gt_of_ne hci with h | h
        · exact h
        · exfalso
          have hcl : c < ops.size := by have := (List.getElem?_eq_some_iff.1 hdc).1; omega
          have hac := hA c _ dc hdc (Array.getElem?_eq_getElem hcl)
          have hpc : Pre ops i c := by
            cases dc with
            | rd v => cases hcc
            | cl v => exact hac.1 i d (by rw [List.getElem?_take, if_pos h, hd]) hch
            | op => exact hac.1 i d (by rw [List.getElem?_take, if_pos h, hd]) hch
          have := hI.down _ _ hl hpc
          rw [hun'] at this; cases this
      · intro h
        exact hpre c (hchain c dc (by rw [List.getElem?_take, if_pos h, hdc]) hcc)
    constructor
    · have := cntL_pre D listed 0 i (fun c dc hdc hcc => by
        rw [Nat.zero_add]
        by_cases hci : c = i
        · subst hci; rw [hun']; simp
        · exact key c dc hdc hcc hci)
      rwa [Nat.sub_zero] at this
    · have := cntL_pre D (listed.setIfInBounds i true) 0 (i + 1) (fun c dc hdc hcc => by
        rw [Nat.zero_add]
        by_cases hci : c = i
        · subst hci; rw [hgi]; simp
        · rw [hne c hci, key c dc hdc hcc hci]; omega)
      rw [Nat.sub_zero, List.take_add_one, hd] at this
      rw [this]
      simp [cnt, hch]
  have hst := hI.st
  cases d with
  | rd v =>
    refine hrunP (hask _ vs w hst) fun v' w' ⟨h1, h2⟩ => ?_
    subst h1
    refine hafterI vs v' w' (fun _ _ => rfl) rfl ?_
    rw [cntL_same D listed _ 0 (fun c dc hdc hcc => by
      rw [Nat.zero_add]
      exact hne c (fun e => by subst e; rw [hd] at hdc; injection hdc with hdc; subst hdc; cases hcc))]
    exact h2
  | cl v =>
    obtain ⟨h3, h4⟩ := hcount rfl hask.1
    rw [h3] at hst
    refine hrunP (hask.2 vs w hst) fun v' w' ⟨h1, h2⟩ => ?_
    subst h1
    exact hafterI vs v' w' (fun _ _ => rfl) rfl (by rw [h4]; exact h2)
  | op =>
    obtain ⟨h3, h4⟩ := hcount rfl hask.1
    rw [h3] at hst
    refine hrunP (hask.2 vs w hst) fun v' w' h2 => ?_
    exact hafterI (upd vs i v') v' w' (fun j hj => upd_ne vs v' hj) (upd_same vs i v') (by rw [h4]; exact h2)

/-- **A region that draws its order: those that change memory in a chain.** -/
theorem region_chain {id : Nat} {w : World} {l : List Oper} {out : List COut} (St : Nat → Vs → World → Prop) (hm : P.follows .mixedOrders = true) (hg : globChk l.toArray = true) (h0 : ∀ vs, St 0 vs w.drew)
    (h : ∀ QN : Act → World → Prop, Shut (∀ a w', Q .normal a w' → QN a w') → RC P QN St l 0 0 (fun _ => a0) out) (hc : chainChk l.toArray [] out = true) : (Code.region id l.toArray true).wp P Q a0 w := by
  obtain ⟨D, hD, hA, hfin⟩ := RC.data (Q := Q) (ops := l.toArray) (a0 := a0) (fun a w h => h) (h (fun a w' => Q .normal a w') (fun a w' h => h)) [] [] rfl rfl (fun c d h => by simp at h) hc (fun _ => rfl) rfl (Nat.zero_le _)
  rw [List.nil_append] at hD
  simp only [List.nil_append, Nat.zero_add] at hA hfin
  refine wp_region_any hm ?_
  refine wpAny_inv (I := fun listed a w1 => ∃ vs, InvC l.toArray St a0 D listed a w1 vs) ?_ ?_ ?_ _ _ _ _ ?_ ?_
  · rintro listed a w1 ⟨vs, hI⟩ hr
    have hg' := hg
    simp only [globChk, Bool.and_eq_true] at hg'
    obtain ⟨⟨⟨hsel, hlook⟩, hdist⟩, htopo⟩ := hg'
    have hall := all_listed htopo hI.size hr
    have ha : a = bGo l.toArray vs (D.map OpC.toD) 0 a0 := by
      have h1 : a.tmps = (bGo l.toArray vs (D.map OpC.toD) 0 a0).tmps := by
        apply Array.ext_getElem?
        intro t
        by_cases hex : ∃ j, dstOf l.toArray j = some t
        · obtain ⟨j, hj⟩ := hex
          obtain ⟨dj, hdj⟩ : ∃ d, D[j]? = some d := ⟨_, List.getElem?_eq_getElem (by rw [hD]; exact dstOf_lt hj)⟩
          by_cases hts : t < a0.tmps.size
          · rw [hI.slot j t dj (hall j (dstOf_lt hj)) hj hts hdj, bGo_at l.toArray vs (fun i j t => dist_of hdist i j t) t j hj dj.toD (D.map OpC.toD) 0 a0 (Nat.zero_le _) (by rw [Nat.sub_zero, List.getElem?_map, hdj]; rfl) hts]
          · have hts' : a0.tmps.size ≤ t := Nat.le_of_not_lt hts
            rw [Array.getElem?_eq_none (by rw [hI.tsize]; exact hts'), Array.getElem?_eq_none (by rw [bGo_size]; exact hts')]
        · rw [hI.other t (fun j _ h2 => hex ⟨j, h2⟩), bGo_other l.toArray vs t _ _ _ (fun j _ _ h3 => hex ⟨j, h3⟩)]
      have h2 : a.defers = (bGo l.toArray vs (D.map OpC.toD) 0 a0).defers := by rw [bGo_defers, hI.defers]
      cases a
      generalize bGo l.toArray vs (D.map OpC.toD) 0 a0 = b at *
      cases b
      simp only at h1 h2
      rw [h1, h2]
    rw [ha]
    refine hfin vs w1 ?_
    have hs := hI.st
    have hcnt := cntL_pre D listed 0 D.length (fun c d hd hc => by
      have hlt := (List.getElem?_eq_some_iff.1 hd).1
      rw [Nat.zero_add]
      exact ⟨fun _ => hlt, fun _ => hall c (by omega)⟩)
    rw [Nat.sub_zero, List.take_length] at hcnt
    rwa [hcnt] at hs
  · rintro listed a w1 i ⟨vs, hI⟩ hi
    exact InvC.step hg hD (fun j o d hd ho => hA j o d hd ho) hI hi
  · rintro listed a w1 ⟨vs, hI⟩
    exact hI.size
  · exact Nat.le_trans List.countP_le_length (by simp)
  · have hz : ∀ i, (Array.replicate l.toArray.size false).getD i false = false := fun i => by
      simp only [Array.getD_eq_getD_getElem?, Array.getElem?_replicate]
      split <;> rfl
    have hno : ∀ i, ¬ (Array.replicate l.toArray.size false).getD i false = true := fun i h => by rw [hz] at h; cases h
    refine ⟨fun _ => undef, ⟨by simp, fun i p h => absurd h (hno i), rfl, rfl, fun i t d h => absurd h (hno i), fun t _ => rfl, ?_⟩⟩
    have hcnt := cntL_pre D (Array.replicate l.toArray.size false) 0 0 (fun c d hd hc => by
      rw [hz]; simp)
    rw [Nat.sub_zero, List.take_zero] at hcnt
    rw [hcnt]
    exact h0 _
end

section
variable {P : Program} {QN : Act → World → Prop} {St : Nat → Vs → World → Prop} {o : Oper} {rest : List Oper} {k j : Nat} {b : Vs → Act} {out : List COut}
theorem RC.fin (h : ∀ vs w, St j vs w → QN (b vs) w) : RC P QN St [] k j b [] := .done h
/-- a reader: at whatever has come up of the chain -/
theorem RC.ok {v : Value} (h : ∀ i vs w, St i vs w → (execOp (b vs).eval o).run P w = .ok (.value v) w) (hg : o.guard = none) (hr : RC P QN St rest (k + 1) j (fun vs => (b vs).put o.dst v) out) : RC P QN St (o :: rest) k j b (⟨k, false, none⟩ :: out) :=
  .read v none (fun i vs w hS => ⟨true, .inl (by simp only [Want, hg]), fun K hK => by
    rw [if_pos rfl, Oper.wp, h i vs w hS]
    exact hK.out w hS⟩) hr
theorem RC.gok {g t : Nat} {x : Bool} {v : Value} (h : ∀ i vs w, St i vs w → (execOp (b vs).eval o).run P w = .ok (.value v) w) (hg : o.guard = some (g, x)) (ht : ∀ vs, (b vs).tmps[t]? = some (.bool x)) (hr : RC P QN St rest (k + 1) j (fun vs => (b vs).put o.dst v) out) : RC P QN St (o :: rest) k j b (⟨k, false, some (g, t)⟩ :: out) :=
  .read v (some (g, t)) (fun i vs w hS => ⟨true, .inl (by simp only [Want, hg]; exact ⟨trivial, x, ht vs, by cases x <;> rfl⟩), fun K hK => by
    rw [if_pos rfl, Oper.wp, h i vs w hS]
    exact hK.out w hS⟩) hr
theorem RC.gno {g t : Nat} {x y : Bool} (hg : o.guard = some (g, x)) (ht : ∀ vs, (b vs).tmps[t]? = some (.bool y)) (hxy : (y == x) = false) (hr : RC P QN St rest (k + 1) j (fun vs => (b vs).put o.dst undef) out) : RC P QN St (o :: rest) k j b (⟨k, false, some (g, t)⟩ :: out) :=
  .read undef (some (g, t)) (fun i vs w hS => ⟨false, .inl (by simp only [Want, hg]; exact ⟨trivial, y, ht vs, hxy.symm⟩), fun K hK => by
    rw [if_neg (by simp)]
    exact hK.out w hS⟩) hr
theorem RC.gun {g t : Nat} {x : Bool} (hg : o.guard = some (g, x)) (ht : ∀ vs, (b vs).tmps[t]? = some undef) (hr : RC P QN St rest (k + 1) j (fun vs => (b vs).put o.dst undef) out) : RC P QN St (o :: rest) k j b (⟨k, false, some (g, t)⟩ :: out) :=
  .read undef (some (g, t)) (fun i vs w hS => ⟨false, .inr ⟨rfl, by simp only [Unasked, hg]; exact ⟨trivial, ht vs⟩⟩, fun K hK => by
    rw [if_neg (by simp)]
    exact hK.out w hS⟩) hr
/-- one of the chain that yields v -/
theorem RC.call (v : Value) (hg : o.guard = none) (h : ∀ vs w, St j vs w → ∀ K : Act → World → Prop, Shut (∀ w', St (j + 1) vs w' → K ((b vs).put o.dst v) w') → o.wp P (b vs) w K (fun _ _ _ => False))
    (hr : RC P QN St rest (k + 1) (j + 1) (fun vs => (b vs).put o.dst v) out) : RC P QN St (o :: rest) k j b (⟨k, true, none⟩ :: out) :=
  .cl v none (fun vs w hS => ⟨true, .inl (by simp only [Want, hg]), fun K hK => by
    rw [if_pos rfl]
    exact h vs w hS K hK⟩) hr
theorem RC.gcall {g t : Nat} {x : Bool} (v : Value) (hg : o.guard = some (g, x)) (ht : ∀ vs, (b vs).tmps[t]? = some (.bool x)) (h : ∀ vs w, St j vs w → ∀ K : Act → World → Prop, Shut (∀ w', St (j + 1) vs w' → K ((b vs).put o.dst v) w') → o.wp P (b vs) w K (fun _ _ _ => False))
    (hr : RC P QN St rest (k + 1) (j + 1) (fun vs => (b vs).put o.dst v) out) : RC P QN St (o :: rest) k j b (⟨k, true, some (g, t)⟩ :: out) :=
  .cl v (some (g, t)) (fun vs w hS => ⟨true, .inl (by simp only [Want, hg]; exact ⟨trivial, x, ht vs, by cases x <;> rfl⟩), fun K hK => by
    rw [if_pos rfl]
    exact h vs w hS K hK⟩) hr
/-- one of the chain, its value open -/
theorem RC.opn (hg : o.guard = none) (h : ∀ vs w, St j vs w → ∀ K : Act → World → Prop, Shut (∀ v w', St (j + 1) (upd vs k v) w' → K ((b vs).put o.dst v) w') → o.wp P (b vs) w K (fun _ _ _ => False))
    (hr : RC P QN St rest (k + 1) (j + 1) (fun vs => (b vs).put o.dst (vs k)) out) : RC P QN St (o :: rest) k j b (⟨k, true, none⟩ :: out) :=
  .op none (fun vs w hS => ⟨true, .inl (by simp only [Want, hg]), fun K hK => by
    rw [if_pos rfl]
    exact h vs w hS K hK⟩) hr
end
end Go.Proofs.Ytebhhfmekmpnkaa.Rg

/-
  slices.Sorted(maps.Keys(m)) at this program: what the kit's lay-iter.mjs and lay-plain.mjs have written for it (wip/mkiter.py).
-/
namespace Go.Proofs.Ytebhhfmekmpnkaa
open Go.RowKit Go.Maps Go.Sort Go.Shelf
set_option linter.unusedVariables false

def itKeys_ren : Go.Shelf.Ren := ⟨fun | 7 => 46 | 10 => 72 | n => n, fun | 23 => 62 | 26 => 9 | 3 => 3 | 28 => 86 | 0 => 0 | 27 => 85 | 33 => 49 | 4 => 4 | n => n, fun | n => n⟩
theorem itKeys : Go.Proofs.SlLaysZ.n7 Try.prog itKeys_ren := {
  mixed := by kernel_rfl
  f7 := ⟨Try.f46.name, by decide, Try.func46.trans (congrArg some (by kernel_rfl))⟩
  f10 := ⟨Try.f72.name, by decide, Try.func72.trans (congrArg some (by kernel_rfl))⟩
  t0 := Try.underlying0
  a0 := Try.isAgg0
  z0 := Try.sizeOf0
  v0 := Try.zeroValue0
  t4 := Try.underlying4
  a4 := Try.isAgg4
  z4 := Try.sizeOf4
  v4 := Try.zeroValue4
  t23 := Try.underlying62
  a23 := Try.isAgg62
  z23 := Try.sizeOf62
  v23 := Try.zeroValue62
  t26 := Try.underlying9
  a26 := Try.isAgg9
  z26 := Try.sizeOf9
  v26 := Try.zeroValue9
  t27 := Try.underlying85
  a27 := Try.isAgg85
  z27 := Try.sizeOf85
  v27 := Try.zeroValue85
  t28 := Try.underlying86
  a28 := Try.isAgg86
  z28 := Try.sizeOf86
  v28 := Try.zeroValue86
  t33 := Try.underlying49
  a33 := Try.isAgg49
  z33 := Try.sizeOf49
  v33 := Try.zeroValue49 }
def itSorted_ren : Go.Shelf.Ren := ⟨fun | 6 => 45 | 8 => 70 | 9 => 71 | 11 => 78 | 13 => 80 | 12 => 79 | 23 => 90 | 24 => 91 | 14 => 81 | 15 => 82 | 16 => 83 | 17 => 84 | 18 => 85 | 19 => 86 | 20 => 87 | 21 => 88 | 22 => 89 | 25 => 92 | 26 => 93 | 27 => 94 | 28 => 95 | 29 => 96 | 30 => 97 | 31 => 98 | n => n, fun | 26 => 9 | 28 => 86 | 24 => 39 | 0 => 0 | 3 => 3 | 37 => 41 | 48 => 136 | 50 => 138 | 4 => 4 | 40 => 129 | 39 => 128 | 45 => 112 | 5 => 5 | 9 => 9 | 51 => 139 | 55 => 143 | 57 => 145 | 58 => 146 | 33 => 49 | n => n, fun | n => n⟩
theorem itSorted : Go.Proofs.SlLaysZ.n6 Try.prog itSorted_ren := {
  mixed := by kernel_rfl
  f6 := ⟨Try.f45.name, by decide, Try.func45.trans (congrArg some (by kernel_rfl))⟩
  f8 := ⟨Try.f70.name, by decide, Try.func70.trans (congrArg some (by kernel_rfl))⟩
  f11 := ⟨Try.f78.name, by decide, Try.func78.trans (congrArg some (by kernel_rfl))⟩
  t0 := Try.underlying0
  a0 := Try.isAgg0
  z0 := Try.sizeOf0
  v0 := Try.zeroValue0
  t24 := Try.underlying39
  a24 := Try.isAgg39
  z24 := Try.sizeOf39
  v24 := Try.zeroValue39
  t26 := Try.underlying9
  a26 := Try.isAgg9
  z26 := Try.sizeOf9
  v26 := Try.zeroValue9
  t28 := Try.underlying86
  a28 := Try.isAgg86
  z28 := Try.sizeOf86
  v28 := Try.zeroValue86
  i26 := by kernel_rfl }
def itSort_ren : Go.Shelf.Ren := ⟨fun | 6 => 71 | 8 => 80 | 9 => 79 | 19 => 90 | 20 => 91 | 21 => 81 | 22 => 82 | 23 => 83 | 24 => 84 | 25 => 85 | 26 => 86 | 27 => 87 | 28 => 88 | 29 => 89 | 36 => 92 | 31 => 93 | 32 => 94 | 37 => 95 | 38 => 96 | 39 => 97 | 41 => 98 | n => n, fun | 27 => 39 | 29 => 9 | 3 => 3 | 32 => 41 | 26 => 39 | 0 => 0 | 44 => 136 | 46 => 138 | 4 => 4 | 36 => 129 | 35 => 128 | 41 => 112 | 5 => 5 | 9 => 9 | 53 => 139 | 57 => 143 | 63 => 145 | 64 => 146 | n => n, fun | n => n⟩
theorem itSort : Go.Proofs.SlLaysM.n6 Try.prog itSort_ren := {
  mixed := by kernel_rfl
  f6 := ⟨Try.f71.name, by decide, Try.func71.trans (congrArg some (by kernel_rfl))⟩
  f8 := Try.func80.trans (congrArg some (by kernel_rfl))
  f9 := ⟨Try.f79.name, by decide, Try.func79.trans (congrArg some (by kernel_rfl))⟩
  f19 := Try.func90.trans (congrArg some (by kernel_rfl))
  f20 := Try.func91.trans (congrArg some (by kernel_rfl))
  f21 := ⟨Try.f81.name, by decide, Try.func81.trans (congrArg some (by kernel_rfl))⟩
  f22 := ⟨Try.f82.name, by decide, Try.func82.trans (congrArg some (by kernel_rfl))⟩
  f23 := ⟨Try.f83.name, by decide, Try.func83.trans (congrArg some (by kernel_rfl))⟩
  f24 := ⟨Try.f84.name, by decide, Try.func84.trans (congrArg some (by kernel_rfl))⟩
  f25 := ⟨Try.f85.name, by decide, Try.func85.trans (congrArg some (by kernel_rfl))⟩
  f26 := ⟨Try.f86.name, by decide, Try.func86.trans (congrArg some (by kernel_rfl))⟩
  f27 := ⟨Try.f87.name, by decide, Try.func87.trans (congrArg some (by kernel_rfl))⟩
  f28 := ⟨Try.f88.name, by decide, Try.func88.trans (congrArg some (by kernel_rfl))⟩
  f29 := ⟨Try.f89.name, by decide, Try.func89.trans (congrArg some (by kernel_rfl))⟩
  f31 := Try.func93.trans (congrArg some (by kernel_rfl))
  f32 := Try.func94.trans (congrArg some (by kernel_rfl))
  f36 := ⟨Try.f92.name, by decide, Try.func92.trans (congrArg some (by kernel_rfl))⟩
  f37 := ⟨Try.f95.name, by decide, Try.func95.trans (congrArg some (by kernel_rfl))⟩
  f38 := ⟨Try.f96.name, by decide, Try.func96.trans (congrArg some (by kernel_rfl))⟩
  f39 := ⟨Try.f97.name, by decide, Try.func97.trans (congrArg some (by kernel_rfl))⟩
  f41 := ⟨Try.f98.name, by decide, Try.func98.trans (congrArg some (by kernel_rfl))⟩
  t0 := Try.underlying0
  a0 := Try.isAgg0
  z0 := Try.sizeOf0
  v0 := Try.zeroValue0
  t3 := Try.underlying3
  a3 := Try.isAgg3
  z3 := Try.sizeOf3
  v3 := Try.zeroValue3
  t4 := Try.underlying4
  a4 := Try.isAgg4
  z4 := Try.sizeOf4
  v4 := Try.zeroValue4
  t5 := Try.underlying5
  a5 := Try.isAgg5
  z5 := Try.sizeOf5
  v5 := Try.zeroValue5
  t9 := Try.underlying9
  a9 := Try.isAgg9
  z9 := Try.sizeOf9
  v9 := Try.zeroValue9
  t26 := Try.underlying39
  a26 := Try.isAgg39
  z26 := Try.sizeOf39
  v26 := Try.zeroValue39
  t27 := Try.underlying39
  a27 := Try.isAgg39
  z27 := Try.sizeOf39
  v27 := Try.zeroValue39
  t29 := Try.underlying9
  a29 := Try.isAgg9
  z29 := Try.sizeOf9
  v29 := Try.zeroValue9
  t32 := Try.underlying41
  a32 := Try.isAgg41
  z32 := Try.sizeOf41
  v32 := Try.zeroValue41
  t35 := Try.underlying128
  a35 := Try.isAgg128
  z35 := Try.sizeOf128
  v35 := Try.zeroValue128
  t36 := Try.underlying129
  a36 := Try.isAgg129
  z36 := Try.sizeOf129
  v36 := Try.zeroValue129
  t41 := Try.underlying112
  a41 := Try.isAgg112
  z41 := Try.sizeOf112
  v41 := Try.zeroValue112
  t44 := Try.underlying136
  a44 := Try.isAgg136
  z44 := Try.sizeOf136
  v44 := Try.zeroValue136
  t46 := Try.underlying138
  a46 := Try.isAgg138
  z46 := Try.sizeOf138
  v46 := Try.zeroValue138
  t53 := Try.underlying139
  a53 := Try.isAgg139
  z53 := Try.sizeOf139
  v53 := Try.zeroValue139
  t57 := Try.underlying143
  a57 := Try.isAgg143
  z57 := Try.sizeOf143
  v57 := Try.zeroValue143
  t63 := Try.underlying145
  a63 := Try.isAgg145
  z63 := Try.sizeOf145
  v63 := Try.zeroValue145
  t64 := Try.underlying146
  a64 := Try.isAgg146
  z64 := Try.sizeOf146
  v64 := Try.zeroValue146 }
theorem itSorts (m : Nat) : AnyZ.SortsIn Try.prog itSorted_ren Fence.wide m :=
  ⟨fun blk off cap ss W hH hblk hsz => callsIn_wide.2 (AnyM.slices_Sort_string itSort blk off cap ss W hH hblk hsz),
   fun p cap W => callsIn_wide.2 (AnyM.slices_Sort_string_none itSort p cap W)⟩

theorem it_maps_Keys (mb : Option Nat) (W : World) : CallsIn Fence.wide 5 Try.prog 46 #[.map mb] W fun e w' => e = .returned (.func (.func 72) #[] #[.pointer (some ⟨W.heap.size, 0, none⟩)]) ∧ w' = W.alloc (.cells #[.map mb] 62) :=
  AnyZ.keys_in itKeys Fence.wide 5 trivial rfl mb W

set_option maxHeartbeats 1000000 in
theorem it_sorted {H : Type} (b nn : Nat) (D0 : DataW H) (R : Value → Option (DataW H × List MemPlace)) (w : World) (hown : w.ownsMap Try.prog 9 R b nn D0) (hmax : Maps.size D0 ≤ maxLen) (hbytes : Maps.size D0 * 16 ≤ 140737488355328) :
    CallsIn Fence.wide 5 Try.prog 45 #[.func (.func 72) #[] #[.pointer (some ⟨w.heap.size, 0, none⟩)]] (w.alloc (.cells #[.map (some b)] 62)) fun e w' => ∃ (v : Value) (ss : List (List UInt8)), e = .returned v ∧ ss.Perm (strKeys D0) ∧
      w'.ownsRow (w.alloc (.cells #[.map (some b)] 62)).heap.size 9 1 v ss.length ((ss.mergeSort (fun x y => decide (x ≤ y))).map encStr) ∧ (v = .slice none 0 0 ↔ ss = []) ∧ Below (w.alloc (.cells #[.map (some b)] 62)).heap.size (w.alloc (.cells #[.map (some b)] 62)) w' := by
  have hbl := hown.lt
  have hseq : SeqGives Fence.wide 2 Try.prog 72 #[.pointer (some ⟨w.heap.size, 0, none⟩)] encStr (fun ss => ss.Perm (strKeys D0)) (Maps.size D0) (w.alloc (.cells #[.map (some b)] 62)) :=
    AnyZ.keys_gives (ρ := itKeys_ren) { itKeys with } Fence.wide _ trivial rfl (by omega) w.heap.size b nn D0 _ (by simp) (by simp) (by
      obtain ⟨es, clock, hb, Ft, hs, hD⟩ := hown
      exact ⟨es, clock, (Below.heap_alloc _ _ b hbl).trans hb, Ft, hs, hD⟩)
  exact AnyZ.sorted_in itSorted Fence.wide 5 trivial trivial trivial trivial rfl (by omega) (itSorts _) (enters_of Try.func71 (by kernel_rfl) rfl) 72 #[.pointer (some ⟨w.heap.size, 0, none⟩)] trivial (enters_of Try.func72 (by kernel_rfl) rfl) _ _ hmax hbytes _ hseq

set_option maxHeartbeats 1000000 in
theorem it_sorted_nil (w : World) :
    CallsIn Fence.wide 5 Try.prog 45 #[.func (.func 72) #[] #[.pointer (some ⟨w.heap.size, 0, none⟩)]] (w.alloc (.cells #[.map none] 62)) fun e w' => ∃ (v : Value) (ss : List (List UInt8)), e = .returned v ∧ ss = [] ∧
      w'.ownsRow (w.alloc (.cells #[.map none] 62)).heap.size 9 1 v ss.length ((ss.mergeSort (fun x y => decide (x ≤ y))).map encStr) ∧ (v = .slice none 0 0 ↔ ss = []) ∧ Below (w.alloc (.cells #[.map none] 62)).heap.size (w.alloc (.cells #[.map none] 62)) w' := by
  have hseq : SeqGives Fence.wide 2 Try.prog 72 #[.pointer (some ⟨w.heap.size, 0, none⟩)] encStr (fun ss : List (List UInt8) => ss = []) 0 (w.alloc (.cells #[.map none] 62)) :=
    AnyZ.keys_gives_nil (ρ := itKeys_ren) { itKeys with } Fence.wide _ trivial rfl w.heap.size _ (by simp) (by simp)
  exact AnyZ.sorted_in itSorted Fence.wide 5 trivial trivial trivial trivial rfl (by omega) (itSorts _) (enters_of Try.func71 (by kernel_rfl) rfl) 72 #[.pointer (some ⟨w.heap.size, 0, none⟩)] trivial (enters_of Try.func72 (by kernel_rfl) rfl) _ 0 (Nat.zero_le _) (by omega) _ hseq
end Go.Proofs.Ytebhhfmekmpnkaa

/-
  The walk of the law's Bytes.
-/
namespace Go.Proofs.Ytebhhfmekmpnkaa
open Go.RowKit
set_option linter.unusedVariables false
set_option linter.unusedSimpArgs false

def bch (n : Int) (i : Nat) : UInt8 := UInt8.ofNat ((n + 3 * (i : Int)) % 256).toNat
def bytesK (n : Int) (long k : Nat) : List UInt8 := (List.range long).map fun i => if i < k then bch n i else 0
def bytesL (n : Int) (long : Nat) : List UInt8 := bytesK n long long
theorem bytesK_len (n : Int) (long k : Nat) : (bytesK n long k).length = long := by simp [bytesK]
theorem bytesL_len (n : Int) (long : Nat) : (bytesL n long).length = long := bytesK_len n long long
theorem bch_val (n : Int) (i : Nat) : ((bch n i).toNat : Int) = (n + 3 * (i : Int)) % 256 := by
  unfold bch
  have h0 : 0 ≤ (n + 3 * (i : Int)) % 256 := by omega
  have h1 : (n + 3 * (i : Int)) % 256 < 256 := by omega
  simp
  omega
theorem bch_wrap (n : Int) (i : Nat) : IntKind.u8.wrap (IntKind.i64.wrap (n + 3 * (i : Int))) = ((bch n i).toNat : Int) := by
  rw [bch_val, IntKind.wrap_u8, IntKind.wrap_i64]
  omega
theorem bytesK_zero (n : Int) (long : Nat) : bytesK n long 0 = List.replicate long 0 := by
  apply List.ext_getElem
  · simp [bytesK]
  · intro i h1 h2; simp [bytesK]
theorem bytesK_set (n : Int) (long k : Nat) (hk : k < long) : (bytesK n long k).set k (bch n k) = bytesK n long (k + 1) := by
  apply List.ext_getElem
  · simp [bytesK]
  · intro i h1 h2
    rw [List.getElem_set]
    simp only [bytesK, List.getElem_map, List.getElem_range]
    by_cases hik : k = i
    · subst hik; simp
    · rw [if_neg hik]
      by_cases h3 : i < k
      · rw [if_pos h3, if_pos (by omega)]
      · rw [if_neg h3, if_neg (by omega)]
set_option maxRecDepth 100000 in
set_option maxHeartbeats 800000 in
theorem bytes_any (n : Int) (long : Nat) (w : World) (hl : long ≤ 1000) (hn : -9223372036854775808 ≤ n ∧ n ≤ 9223372036854775807) :
    Calls Try.prog 17 #[.int .i64 n, .int .i64 (long : Int)] w fun e w' => e = .returned (.string (tx (bytesL n long))) ∧ Up w w' := by
  have MK : ∀ W : World, (Instr.makeSlice 31 (.int .i64 (long : Int)) (.int .i64 (long : Int))).run Try.prog W = .ok (.slice (some ⟨W.heap.size, 0, none⟩) long long) (W.alloc (.cells (zb long) 5)) := fun W => make_b W .i64 .i64 (long : Int) (by omega) (by omega)
  have hup1 : Up w (w.alloc (.cells (zb long) 5)) := (Up.refl w).alloc _
  have hb1 : (w.alloc (.cells (zb long) 5)).heap[w.heap.size]? = some (.cells (bvs (bytesK n long 0)).toArray 5 (0, 0)) := by rw [bytesK_zero]; exact heap_alloc_new w _
  have HBC := Lib.hid (bch_wrap n)
  have HBS := Lib.hid (bytesK_set n long)
  go_enter Try.func17, Try.ntmps17
  go_wp2_with fail
  clear MK
  generalize w.alloc (.cells (zb long) 5) = w1 at *
  have hgw : w.heap.size ≤ w.heap.size := Nat.le_refl _
  generalize hg : w.heap.size = g at hb1 ⊢
  go_loopw [11] (fun iv wr => ∃ k : Nat, iv = .int .i64 (k : Int) ∧ k ≤ long ∧ wr.heap[g]? = some (.cells (bvs (bytesK n long k)).toArray 5 (0, 0)) ∧ Up w wr) (fun iv _ => long - (intOf iv).toNat)
  case atStart => exact ⟨0, rfl, by omega, hb1, hup1⟩
  case round =>
    obtain ⟨k, rfl, hk, hb, hup⟩ := hrel
    clear hb1 hup1
    by_cases hlt : k < long
    · have hlti : (k : Int) < (long : Int) := by omega
      have hc : wr.cell? ⟨g, k, none⟩ = some (bv ((bytesK n long k).getD k 0)) := by
        rw [blk_cell hb k]
        have h9 : k < (bytesK n long k).length := by rw [bytesK_len]; exact hlt
        simp [bvs, List.getD, h9]
      have hz := blk_free hb k
      have hset := setc_heap wr g k (bv (bch n k)) _ _ hb
      have hK : Rg.Keeps (fun x => x = g) wr (wr.setCell ⟨g, k, none⟩ (bv (bch n k))) := setc_keeps _ _ _ _ _ (Rg.Keeps.refl _ _)
      have hset2 : (wr.setCell ⟨g, k, none⟩ (bv (bch n k))).heap[g]? = some (.cells (bvs (bytesK n long (k + 1))).toArray 5 (0, 0)) := by
        rw [hset]
        congr 2
        rw [← HBS.out k hlt]
        apply Array.toList_inj.1
        simp [bvs, List.map_set]
      have hup2 : Up w (wr.setCell ⟨g, k, none⟩ (bv (bch n k))) := ⟨hK.os.trans hup.os, hK.tape.trans hup.tape, hK.output.trans hup.output, Nat.le_trans hup.size hK.size, fun y hy => (hK.block y (Nat.lt_of_lt_of_le hy hup.size) (by omega)).trans (hup.block y hy)⟩
      have H2 := Lib.hid hset2
      have HU := Lib.hid hup2
      have hv := HBC.out k
      have hbv : bv (bch n k) = .int .u8 ((bch n k).toNat : Int) := rfl
      rw [hbv] at H2 HU
      clear hset hset2 hup2 hK hb hbv
      have hv2 : wrap64 (n + 3 * (k : Int)) % 256 = ((bch n k).toNat : Int) := by
        have h9 := hv
        rw [IntKind.wrap_u8, IntKind.wrap_i64] at h9
        unfold wrap64
        exact h9
      have HV2 := Lib.hid hv2
      clear hv hv2
      go_wp2_with fail
      rw [HV2.out]
      go_roundw
      case rel => exact ⟨k + 1, by go_num, by omega, H2.out, HU.out⟩
      case measure => simp [intOf]; omega
    · have hlti : ¬ (k : Int) < (long : Int) := by omega
      have hkl : k = long := by omega
      subst hkl
      have hrd : Rd wr wr.heap.size 1 (some ⟨g, 0, none⟩) k (bvs (bytesL n k)) := by
        refine ⟨by simp [bvs, bytesL_len], fun _ => ⟨g, 0, rfl, (Array.getElem?_eq_some_iff.1 hb).1, fun j u hu => ?_⟩⟩
        rw [Nat.zero_add, blk_cell hb j, ← hu]
        simp [bytesL]
      have hcv : (convert 31 9 (.slice (some ⟨g, 0, none⟩) k k)).run Try.prog wr = .ok (.string (tx (bytesL n k))) wr := run_str k hrd
      clear hrd hb
      go_wp2_with fail
      go_ret
      exact ⟨rfl, hup⟩
end Go.Proofs.Ytebhhfmekmpnkaa

/-
  []byte(s): a new slice that holds a text's bytes.
-/
namespace Go.Proofs.Ytebhhfmekmpnkaa
open Go.RowKit
set_option linter.unusedVariables false
set_option linter.unusedSimpArgs false

theorem conv_b (w : World) (l : List UInt8) : ∃ c w', (convert 9 31 (.string (tx l))).run Try.prog w = .ok (.slice (some ⟨w.heap.size, 0, none⟩) l.length c) w' ∧ l.length ≤ c ∧
    Rd w' w'.heap.size 1 (some ⟨w.heap.size, 0, none⟩) l.length (bvs l) ∧ Up w w' ∧ (∀ j, j < l.length → w'.frozen? ⟨w.heap.size, j, none⟩ = false) ∧ w.heap.size < w'.heap.size := by
  have hrun := Lib.run_convert_string_bytes (P := Try.prog) w 9 31 5 (tx l) Try.underlying9 bytesT.ut Try.underlying5
  rw [tx_size] at hrun
  refine ⟨_, _, hrun, grownCap_ge w _ 0 _, ⟨by rw [bvs_length, Nat.mul_one], fun _ => ⟨w.heap.size, 0, rfl, by rw [Lib.bytesWorld_size]; omega, fun j u hu => ?_⟩⟩, ⟨rfl, rfl, rfl, by rw [Lib.bytesWorld_size]; omega, fun k hk => Lib.bytesWorld_at_old w _ _ k hk⟩, fun j hj => ?_, by rw [Lib.bytesWorld_size]; omega⟩
  · rw [Nat.zero_add]
    have hj := (List.getElem?_eq_some_iff.1 hu).1
    rw [bvs_length] at hj
    rw [Lib.bytesWorld_cell w _ _ j (by rw [tx_size]; exact hj), tx_list, ← hu]
    simp [bvs, bv, hj, List.getD]
  · have hge := grownCap_ge w l.length 0 5
    unfold World.frozen?
    rw [Lib.bytesWorld_at_new]
    have hs : j < (Lib.bytesCells w 5 (tx l)).size := by
      unfold Lib.bytesCells
      simp [tx_size]; omega
    simp
    omega
end Go.Proofs.Ytebhhfmekmpnkaa

/-
  Opening arguments: structs of one-cell fields; four numbers (api.Meta).
-/
namespace Go.Proofs.Ytebhhfmekmpnkaa
open Go.ChangeShapes Go.WideShapes Go.ChangeAt Go.RowKit Go.Deep
set_option linter.unusedVariables false
section
variable {H : Type} {enc : TypeId × Value → H} {P : Program} {w : World} {base : Nat} {spare : Nat → Bool} {held : Bool}
theorem struct_one {t : TypeId} {fs : Array Field} {fuel : Nat} {cs : List Value} {y : DataW H × List MemPlace} (hs : P.underlying t = some (.struct fs)) (hone : oneCellFields P fs = true) (hC : P.cellsOf t = fs.size)
    (h : DataW.trod enc P w base spare held fuel t cs = some y) : cs.length = fs.size ∧ ∃ n, ∀ (j : Nat) (f : Field), fs[j]? = some f → ∃ y, DataW.trod enc P w base spare held n f.type ((cs.drop j).take 1) = some y := by
  obtain ⟨ys, n, _, _, hlen, hyl, hf⟩ := DataW.trod_struct hs h
  rw [hC] at hlen
  refine ⟨hlen, n, fun j f hj => ?_⟩
  obtain ⟨ho, hk⟩ := hone_of hone j f hj
  have h1 := hf j f hj
  rw [ho, hk] at h1
  have hjl : j < ys.length := by
    have := (Array.getElem?_eq_some_iff.1 hj).1
    rw [hyl]; exact this
  exact ⟨ys[j], h1.trans (List.getElem?_eq_getElem hjl)⟩
end
theorem u64_nat {n : Int} (h : (Lit.int .u64 n).wf = true) : ∃ k : Nat, n = (k : Int) ∧ k < 18446744073709551616 := by
  have := bd_u64 h
  exact ⟨n.toNat, by omega, by omega⟩
section
variable {H : Type} {enc : TypeId × Value → H} {w : World} {base : Nat} {spare : Nat → Bool} {held : Bool}
end
end Go.Proofs.Ytebhhfmekmpnkaa

/-
  Opening arguments: slices of whole numbers.
-/
namespace Go.Proofs.Ytebhhfmekmpnkaa
open Go.ChangeShapes Go.WideShapes Go.ChangeAt Go.RowKit Go.Deep
set_option linter.unusedVariables false

theorem i64_ofZ {n : Int} (h : (Lit.int .i64 n).wf = true) : n = (Int64.ofInt n).toInt := by
  have := bd_i64 h
  rw [Int64.toInt_ofInt_of_le (by simpa using this.1) (by have := this.2; simp; omega)]
section
variable {H : Type} {enc : TypeId × Value → H} {W : World} {sp : Nat → Bool} {a : Option Addr} {len cap : Nat} {d : DataW H} {p : List MemPlace}
/-- a slice of whole numbers that came in -/
def zvs (l : List Int64) : List Value := l.map fun z => Value.int .i64 z.toInt
def IsZ (w : World) (A : Option Addr) (n c : Nat) (l : List Int64) : Prop := Rd w w.heap.size 1 A n (zvs l) ∧ n ≤ c ∧ c ≤ 9223372036854775807
theorem is_z (h : DataW.Trod enc Try.prog W 0 (fun _ => true) true 22 (.slice a len cap) d p) : ∃ l, IsZ W a len cap l := by
  obtain ⟨fuel, hf⟩ := h
  rcases open_ints Try.underlying22 Try.underlying3 (by kernel_rfl) hf with ⟨hcs, _⟩ | ⟨x, l, c, zs, hcs, _, hl, hm, hz, _, hcell, hwz⟩
  · simp [Value.cells] at hcs
    obtain ⟨rfl, rfl, rfl⟩ := hcs
    exact ⟨[], Rd.empty, by omega, by omega⟩
  · simp [Value.cells] at hcs
    obtain ⟨rfl, rfl, rfl⟩ := hcs
    refine ⟨_, rd_ints (fun z : Int64 => Value.int .i64 z.toInt) (fun n => Int64.ofInt n) (fun n hn => ?_) hl (by simpa using hz) hcell hwz, hl, by simpa only [maxLen] using hm⟩
    exact congrArg _ (i64_ofZ hn).symm
theorem Rd.zlen {w : World} {B n : Nat} {A : Option Addr} {q : List Int64} (h : Rd w B 1 A n (zvs q)) : n = q.length := by have := h.1; simp [zvs] at this; omega
theorem Rd.znum {w : World} {B n : Nat} {A : Option Addr} {q : List Int64} (h : Rd w B 1 A n (zvs q)) {k : Nat} (hk : k < n) :
    ∃ b o, A = some ⟨b, o, none⟩ ∧ b < B ∧ w.cell? ⟨b, o + k, none⟩ = some (.int .i64 (q.getD k 0).toInt) := by
  obtain ⟨b, o, e, hb, hc⟩ := h.2 (by omega)
  have hl : k < q.length := by have := h.zlen; omega
  exact ⟨b, o, e, hb, hc k _ (by simp [zvs, hl, List.getD])⟩
end
end Go.Proofs.Ytebhhfmekmpnkaa
