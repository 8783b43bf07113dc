/-
  Texts of this claim, joined: DkB, DkW5, DkB2, DkW6, DkW7, LogW4, DkF, DkW8, DkW9, DkW10, LogP, MsgW1, MsgW2, OpenI, OpenRI, LogW3, LogW5.
-/
import Derived.StillTailTactics
import Derived.Deep.Cut
import Derived.Deep.CutRange
import Derived.Laws.Externs
import Derived.Shelf.SlMaps.Clone
import Derived.Lib.SliceRun
import Derived.Lib.MinMax
import Derived.Test.YtnjmekjaingniaaZ3
/-
  The disk in memory: what a change of one of its parts leaves of the others.
-/
namespace Go.Proofs.Ytnjmekjaingniaa
open Go.RowKit Go.Maps
set_option linter.unusedVariables false
set_option linter.unusedSimpArgs false

/-- of which type a block's cells are -/
def kd (w : World) (k : Nat) : Option (Option TypeId) := (w.heap[k]?).map fun o => match o with | .cells _ t _ => some t | _ => none
theorem kd_cells {w : World} {k : Nat} {cs : Array Value} {t : TypeId} {fz : Nat × Nat} (h : w.heap[k]? = some (.cells cs t fz)) : kd w k = some (some t) := by unfold kd; rw [h]; rfl
theorem kd_row {w : World} {base n c : Nat} {e : TypeId} {sz : Nat} {A : Option Addr} {xs : List Value} (h : w.ownsRow base e sz (.slice A n c) n xs) {k : Nat} (hk : inA A k) : kd w k = some (some e) := by
  obtain ⟨a, rfl, rfl⟩ := hk
  rcases h.2 with ⟨hv, _⟩ | ⟨g, cap, cur, hv, hg, hh, r⟩
  · cases hv
  · injection hv with hA
    injection hA with hA
    subst hA
    exact kd_cells hh
theorem ob_inA {A : Option Addr} {n c k : Nat} (h : Rg.ob (.slice A n c) k) : inA A k := by
  cases A with
  | none => exact h.elim
  | some a => exact ⟨a, rfl, h⟩
theorem at_inA {A A' : Option Addr} {n n' c c' g : Nat} (hat : (Value.slice A' n' c').ownBlock = (Value.slice A n c).ownBlock ∨ (Value.slice A' n' c').ownBlock = some g) : ∀ k, inA A' k → inA A k ∨ g ≤ k := by
  rintro k ⟨a, rfl, rfl⟩
  rcases hat with h | h
  · cases A with
    | none => simp [Value.ownBlock] at h
    | some z => simp [Value.ownBlock] at h; exact .inl ⟨z, rfl, h.symm⟩
  · simp [Value.ownBlock] at h
    exact .inr (Nat.le_of_eq h.symm)
theorem keepsRow {w w' : World} {base n c : Nat} {e : TypeId} {sz : Nat} {A : Option Addr} {xs : List Value} (h : w.ownsRow base e sz (.slice A n c) n xs) (hg : w.grownBy w' (Value.slice A n c).ownBlock) : Rg.Keeps (fun k => inA A k) w w' :=
  keeps_grown h hg (fun _ hk => ob_inA hk)
theorem keepsMap {w w' : World} {b : Nat} (hg : w.grownBy w' (some b)) : Rg.Keeps (fun k => k = b) w w' :=
  ⟨hg.os, hg.tape, hg.output, hg.size, fun k hk hx => hg.block k hk (fun e => hx (Option.some.inj e))⟩
section
variable {B : Nat} {h : Hp} {d : Dk} {w w' : World} {X : Nat → Prop}
theorem kd_map {b n : Nat} {D : Mp} (h : w.ownsMap Try.prog 9 (plainElem Try.prog 3) b n D) : kd w b = some none := by
  obtain ⟨es, clock, hb, _⟩ := h
  unfold kd
  rw [hb]; rfl
theorem DiskAt.fkeep (H : DiskAt B h d w) (hK : Rg.Keeps X w w') (hx : ∀ k, X k → kd w k ≠ some (some 88) ∧ kd w k ≠ some (some 93) ∧ kd w k ≠ some (some 5)) :
    w'.ownsRow B 88 1 (.slice h.fa d.files.length h.fc) d.files.length (pfs h.fl) ∧ ∀ (i : Nat) (f : Fl) (x : Fi), h.fl[i]? = some f → d.files[i]? = some x → FileAt B f x w' :=
  ⟨own_keepsX H.files hK (fun k hk hX => (hx k hX).1 (kd_row H.files hk)), fun i f x hf hx2 => by
    have hF := H.each i f x hf hx2
    exact hF.keepsX hK (fun hX => (hx _ hX).2.1 (kd_cells hF.blk)) (fun k hk hX => (hx k hX).2.2 (kd_row hF.own hk))⟩
theorem DiskAt.gkeep (H : DiskAt B h d w) (hK : Rg.Keeps X w w') (hx : ∀ k, X k → kd w k ≠ some (some 86)) : w'.heap[h.g]? = some (.cells (dcs d h) 86 (0, 0)) :=
  (hK.block _ (Array.getElem?_eq_some_iff.1 H.hd).1 (fun hX => hx _ hX (kd_cells H.hd))).trans H.hd
theorem DiskAt.mkeep (H : DiskAt B h d w) (hK : Rg.Keeps X w w') (hx : ∀ k, X k → kd w k ≠ some none) : w'.ownsMap Try.prog 9 (plainElem Try.prog 3) h.nb (Maps.size d.names) d.names ∧ w'.ownsMap Try.prog 9 (plainElem Try.prog 3) h.lb (Maps.size d.lasted) d.lasted :=
  ⟨map_keepsX H.names hK (fun hX => hx _ hX (kd_map H.names)), map_keepsX H.lasted hK (fun hX => hx _ hX (kd_map H.lasted))⟩
theorem DiskAt.tkeep (H : DiskAt B h d w) (hK : Rg.Keeps X w w') (hx : ∀ k, X k → kd w k ≠ some (some 91)) : w'.ownsRow B 91 4 (.slice h.ta d.turns.length h.tc) d.turns.length (tcs d.turns) :=
  own_keepsX H.turns hK (fun k hk hX => hx k hX (kd_row H.turns hk))
theorem setc_or (hK : Rg.Keeps X w w') (g i : Nat) (v : Value) : Rg.Keeps (fun k => k = g ∨ X k) w (w'.setCell ⟨g, i, none⟩ v) := by
  have h2 : Rg.Keeps (fun k => k = g) w' (w'.setCell ⟨g, i, none⟩ v) := setc_keeps _ _ _ _ _ (Rg.Keeps.refl _ _)
  exact Keeps.trans2 (Keeps.weak hK (fun k hk => .inr hk)) (Keeps.weak h2 (fun k hk => .inl hk))
/-- the names have turned -/
theorem DiskAt.setNames (H : DiskAt B h d w) {n : Nat} {D' : Mp} (hK : Rg.Keeps (fun k => k = h.nb) w w') (hm : w'.ownsMap Try.prog 9 (plainElem Try.prog 3) h.nb n D') : DiskAt B h { d with names := D' } w' ∧ DkTo h w h w' := by
  have hx : ∀ k, k = h.nb → kd w k = some none := fun k hk => by subst hk; exact kd_map H.names
  have hf := H.fkeep hK (fun k hk => by rw [hx k hk]; exact ⟨by simp, by simp, by simp⟩)
  exact ⟨⟨H.gkeep hK (fun k hk => by rw [hx k hk]; simp), H.base, hf.1, H.flen, hf.2, H.apart, map_tight hm, map_keepsX H.lasted hK (fun e => H.nl e.symm), H.nl, H.nbase, H.tkeep hK (fun k hk => by rw [hx k hk]; simp)⟩,
    rfl, Keeps.weak hK (fun k hk => .inr (.inl hk)), fun k hk => .inl hk⟩
theorem DiskAt.setLasted (H : DiskAt B h d w) {n : Nat} {D' : Mp} (hK : Rg.Keeps (fun k => k = h.lb) w w') (hm : w'.ownsMap Try.prog 9 (plainElem Try.prog 3) h.lb n D') : DiskAt B h { d with lasted := D' } w' ∧ DkTo h w h w' := by
  have hx : ∀ k, k = h.lb → kd w k = some none := fun k hk => by subst hk; exact kd_map H.lasted
  have hf := H.fkeep hK (fun k hk => by rw [hx k hk]; exact ⟨by simp, by simp, by simp⟩)
  exact ⟨⟨H.gkeep hK (fun k hk => by rw [hx k hk]; simp), H.base, hf.1, H.flen, hf.2, H.apart, map_keepsX H.names hK (fun e => H.nl e), map_tight hm, H.nl, H.nbase, H.tkeep hK (fun k hk => by rw [hx k hk]; simp)⟩,
    rfl, Keeps.weak hK (fun k hk => .inr (.inr (.inl hk))), fun k hk => .inl hk⟩
/-- the turns have grown, or are none: told of the world behind all -/
theorem DiskAt.setTurnsF (H : DiskAt B h d w) {ta' : Option Addr} {tc' m0 : Nat} (l' : List Tn) (hg2 : w'.heap[h.g]? = some (.cells (dcs { d with turns := l' } { h with ta := ta', tc := tc' }) 86 (0, 0))) (ho : w'.ownsRow B 91 4 (.slice ta' l'.length tc') l'.length (tcs l')) (hK2 : Rg.Keeps (fun k => k = h.g ∨ inA h.ta k) w w') (hm0 : m0 ≤ w.heap.size) (hat : ∀ k, inA ta' k → inA h.ta k ∨ m0 ≤ k) :
    DiskAt B { h with ta := ta', tc := tc' } { d with turns := l' } w' ∧ Rg.Keeps (foot h) w w' ∧ ∀ k, foot { h with ta := ta', tc := tc' } k → foot h k ∨ m0 ≤ k := by
  have hx : ∀ k, (k = h.g ∨ inA h.ta k) → kd w k = some (some 86) ∨ kd w k = some (some 91) := by
    rintro k (rfl | hk)
    · exact .inl (kd_cells H.hd)
    · exact .inr (kd_row H.turns hk)
  have hf := H.fkeep hK2 (fun k hk => by rcases hx k hk with e | e <;> rw [e] <;> exact ⟨by decide, by decide, by decide⟩)
  have hm := H.mkeep hK2 (fun k hk => by rcases hx k hk with e | e <;> rw [e] <;> simp)
  refine ⟨⟨hg2, H.base, hf.1, H.flen, hf.2, H.apart, hm.1, hm.2, H.nl, H.nbase, ho⟩, Keeps.weak hK2 (fun k hk => ?_), fun k hk => ?_⟩
  · rcases hk with rfl | hk
    · exact .inl rfl
    · exact .inr (.inr (.inr (.inr (.inl hk))))
  · rcases hk with hk | hk | hk | hk | hk | hk
    · exact .inl (.inl hk)
    · exact .inl (.inr (.inl hk))
    · exact .inl (.inr (.inr (.inl hk)))
    · exact .inl (.inr (.inr (.inr (.inl hk))))
    · rcases hat k hk with h9 | h9
      · exact .inl (.inr (.inr (.inr (.inr (.inl h9)))))
      · exact .inr h9
    · exact .inl (.inr (.inr (.inr (.inr (.inr hk)))))
/-- the turns have grown, or are none -/
theorem DiskAt.setTurns (H : DiskAt B h d w) {ta' : Option Addr} {tc' : Nat} (l' : List Tn) (ho : w'.ownsRow B 91 4 (.slice ta' l'.length tc') l'.length (tcs l')) (hK : Rg.Keeps (fun k => inA h.ta k) w w') (hat : ∀ k, inA ta' k → inA h.ta k ∨ w.heap.size ≤ k) :
    DiskAt B { h with ta := ta', tc := tc' } { d with turns := l' } (w'.setCell ⟨h.g, 4, none⟩ (.slice ta' l'.length tc')) ∧ DkTo h w { h with ta := ta', tc := tc' } (w'.setCell ⟨h.g, 4, none⟩ (.slice ta' l'.length tc')) := by
  have hg1 : w'.heap[h.g]? = some (.cells (dcs d h) 86 (0, 0)) := H.gkeep hK (fun k hk => by rw [kd_row H.turns hk]; decide)
  have hg2 := setc_heap w' h.g 4 (.slice ta' l'.length tc') _ _ hg1
  have hK3 : Rg.Keeps (fun k => k = h.g) w' (w'.setCell ⟨h.g, 4, none⟩ (.slice ta' l'.length tc')) := setc_keeps _ _ _ _ _ (Rg.Keeps.refl _ _)
  have h9 := H.setTurnsF l' hg2 (own_keepsX ho hK3 (fun k hk e => by
    have h1 := kd_row ho hk
    rw [e, kd_cells hg1] at h1
    exact absurd h1 (by decide))) (setc_or hK h.g 4 (.slice ta' l'.length tc')) (Nat.le_refl _) hat
  exact ⟨h9.1, rfl, h9.2.1, h9.2.2⟩
/-- an empty file more -/
theorem DiskAt.addFile (H : DiskAt B h d w) {fa' : Option Addr} {fc' g : Nat} (hg : w.heap[g]? = some (.cells #[.slice none 0 0, .int .i64 0] 93 (0, 0))) (hgn : ¬ foot h g) (hgB : B ≤ g) {m0 : Nat} (hm0 : m0 ≤ g) (hmw : m0 ≤ w.heap.size)
    (ho : w'.ownsRow B 88 1 (.slice fa' (d.files.length + 1) fc') (d.files.length + 1) (pfs h.fl ++ [.pointer (some ⟨g, 0, none⟩)])) (hK : Rg.Keeps (fun k => inA h.fa k) w w') (hat : ∀ k, inA fa' k → inA h.fa k ∨ m0 ≤ k) :
    DiskAt B { h with fa := fa', fc := fc', fl := h.fl ++ [⟨g, none, 0⟩] } { d with files := d.files ++ [⟨[], 0⟩] } (w'.setCell ⟨h.g, 1, none⟩ (.slice fa' (d.files.length + 1) fc')) ∧
      Rg.Keeps (foot h) w (w'.setCell ⟨h.g, 1, none⟩ (.slice fa' (d.files.length + 1) fc')) ∧ ∀ k, foot { h with fa := fa', fc := fc', fl := h.fl ++ [⟨g, none, 0⟩] } k → foot h k ∨ m0 ≤ k := by
  have hx : ∀ k, (k = h.g ∨ inA h.fa k) → kd w k = some (some 86) ∨ kd w k = some (some 88) := by
    rintro k (rfl | hk)
    · exact .inl (kd_cells H.hd)
    · exact .inr (kd_row H.files hk)
  have hg1 : w'.heap[h.g]? = some (.cells (dcs d h) 86 (0, 0)) := H.gkeep hK (fun k hk => by rw [kd_row H.files hk]; decide)
  have hg2 := setc_heap w' h.g 1 (.slice fa' (d.files.length + 1) fc') _ _ hg1
  have hK2 := setc_or hK h.g 1 (.slice fa' (d.files.length + 1) fc')
  have hm := H.mkeep hK2 (fun k hk => by rcases hx k hk with e | e <;> rw [e] <;> simp)
  have ht := H.tkeep hK2 (fun k hk => by rcases hx k hk with e | e <;> rw [e] <;> decide)
  have hK3 : Rg.Keeps (fun k => k = h.g) w' (w'.setCell ⟨h.g, 1, none⟩ (.slice fa' (d.files.length + 1) fc')) := setc_keeps _ _ _ _ _ (Rg.Keeps.refl _ _)
  have heach : ∀ (i : Nat) (f : Fl) (x : Fi), h.fl[i]? = some f → d.files[i]? = some x → FileAt B f x (w'.setCell ⟨h.g, 1, none⟩ (.slice fa' (d.files.length + 1) fc')) := fun i f x hf hx2 => by
    have hF := H.each i f x hf hx2
    refine hF.keepsX hK2 (fun hX => ?_) (fun k hk hX => ?_)
    · have h1 := kd_cells hF.blk
      rcases hx _ hX with e | e <;> rw [e] at h1 <;> exact absurd h1 (by decide)
    · have h1 := kd_row hF.own hk
      rcases hx _ hX with e | e <;> rw [e] at h1 <;> exact absurd h1 (by decide)
  have hfg : (w'.setCell ⟨h.g, 1, none⟩ (.slice fa' (d.files.length + 1) fc')).heap[g]? = some (.cells #[.slice none 0 0, .int .i64 0] 93 (0, 0)) := by
    refine (hK2.block g (Array.getElem?_eq_some_iff.1 hg).1 (fun hX => ?_)).trans hg
    rcases hX with e | e
    · exact hgn (.inl e)
    · exact hgn (.inr (.inr (.inr (.inl e))))
  have hfl := H.flen
  refine ⟨⟨?_, H.base, ?_, by simp [hfl], fun i f x hf hx2 => ?_, fun i j f f' hij hf hf' => ?_, hm.1, hm.2, H.nl, H.nbase, ht⟩, Keeps.weak hK2 (fun k hk => ?_), fun k hk => ?_⟩
  · rw [hg2]; simp [dcs]
  · have hp : pfs (h.fl ++ [⟨g, none, 0⟩]) = pfs h.fl ++ [.pointer (some ⟨g, 0, none⟩)] := by simp [pfs]
    show World.ownsRow _ B _ 1 (.slice fa' (d.files ++ [(⟨[], 0⟩ : Fi)]).length fc') (d.files ++ [(⟨[], 0⟩ : Fi)]).length (pfs (h.fl ++ [(⟨g, none, 0⟩ : Fl)]))
    rw [List.length_append, hp]
    refine own_keepsX ho hK3 (fun k hk e => ?_)
    have h1 := kd_row ho hk
    rw [e, kd_cells hg1] at h1
    exact absurd h1 (by decide)
  · by_cases hi : i < h.fl.length
    · rw [List.getElem?_append_left hi] at hf
      rw [List.getElem?_append_left (by omega)] at hx2
      exact heach i f x hf hx2
    · have hi2 : i = h.fl.length := by
        have := (List.getElem?_eq_some_iff.1 hf).1
        simp at this
        omega
      subst hi2
      rw [List.getElem?_append_right (Nat.le_refl _), Nat.sub_self] at hf
      rw [List.getElem?_append_right (by omega), hfl, Nat.sub_self] at hx2
      simp at hf hx2
      subst hf hx2
      exact ⟨hfg, World.ownsRow_nil _ _ _ _, hgB⟩
  · have hin : ∀ (j : Nat) (f : Fl), (h.fl ++ [⟨g, none, 0⟩])[j]? = some f → (j < h.fl.length ∧ h.fl[j]? = some f) ∨ (j = h.fl.length ∧ f = ⟨g, none, 0⟩) := fun j f hf => by
      by_cases hj : j < h.fl.length
      · rw [List.getElem?_append_left hj] at hf; exact .inl ⟨hj, hf⟩
      · have h9 := (List.getElem?_eq_some_iff.1 hf).1
        simp at h9
        have hj2 : j = h.fl.length := by omega
        subst hj2
        rw [List.getElem?_append_right (Nat.le_refl _), Nat.sub_self] at hf
        simp at hf
        exact .inr ⟨rfl, hf.symm⟩
    rcases hin i f hf with ⟨h1, h2⟩ | ⟨h1, rfl⟩
    · rcases hin j f' hf' with ⟨h3, h4⟩ | ⟨h3, rfl⟩
      · exact H.apart i j f f' hij h2 h4
      · exact ⟨fun e => hgn (.inr (.inr (.inr (.inr (.inr ⟨f, List.mem_of_getElem? h2, .inl e.symm⟩))))), fun k _ hk => by obtain ⟨a, ha, _⟩ := hk; cases ha⟩
    · rcases hin j f' hf' with ⟨h3, h4⟩ | ⟨h3, rfl⟩
      · exact ⟨fun e => hgn (.inr (.inr (.inr (.inr (.inr ⟨f', List.mem_of_getElem? h4, .inl e⟩))))), fun k hk => by obtain ⟨a, ha, _⟩ := hk; cases ha⟩
      · omega
  · rcases hk with rfl | hk
    · exact .inl rfl
    · exact .inr (.inr (.inr (.inl hk)))
  · rcases hk with hk | hk | hk | hk | hk | ⟨f, hf, hk⟩
    · exact .inl (.inl hk)
    · exact .inl (.inr (.inl hk))
    · exact .inl (.inr (.inr (.inl hk)))
    · rcases hat k hk with h9 | h9
      · exact .inl (.inr (.inr (.inr (.inl h9))))
      · exact .inr h9
    · exact .inl (.inr (.inr (.inr (.inr (.inl hk)))))
    · rcases List.mem_append.1 hf with hf | hf
      · exact .inl (.inr (.inr (.inr (.inr (.inr ⟨f, hf, hk⟩)))))
      · rw [List.mem_singleton] at hf
        subst hf
        rcases hk with rfl | hk
        · exact .inr hm0
        · obtain ⟨a, ha, _⟩ := hk; cases ha
/-- one file has turned -/
theorem DiskAt.setFile (H : DiskAt B h d w) {i : Nat} {f : Fl} {x x' : Fi} {A' : Option Addr} {c' : Nat} (hf : h.fl[i]? = some f) (hx : d.files[i]? = some x) (hb : w'.heap[f.g]? = some (.cells #[.slice A' x'.b.length c', .int .i64 (x'.last : Int)] 93 (0, 0)))
    (ho : OwnB w' B A' x'.b.length c' x'.b) (hK : Rg.Keeps (fun k => k = f.g ∨ inA f.A k) w w') (hat : ∀ k, inA A' k → inA f.A k ∨ w.heap.size ≤ k) :
    DiskAt B { h with fl := h.fl.set i ⟨f.g, A', c'⟩ } { d with files := d.files.set i x' } w' ∧ DkTo h w { h with fl := h.fl.set i ⟨f.g, A', c'⟩ } w' := by
  have hF := H.each i f x hf hx
  have hkd : ∀ k, (k = f.g ∨ inA f.A k) → kd w k = some (some 93) ∨ kd w k = some (some 5) := by
    rintro k (rfl | hk)
    · exact .inl (kd_cells hF.blk)
    · exact .inr (kd_row hF.own hk)
  have hil : i < h.fl.length := (List.getElem?_eq_some_iff.1 hf).1
  have hfl := H.flen
  have hm := H.mkeep hK (fun k hk => by rcases hkd k hk with e | e <;> rw [e] <;> simp)
  have ht := H.tkeep hK (fun k hk => by rcases hkd k hk with e | e <;> rw [e] <;> decide)
  have hg1 := H.gkeep hK (fun k hk => by rcases hkd k hk with e | e <;> rw [e] <;> decide)
  have hfr := own_keepsX H.files hK (fun k hk hX => by
    have h1 := kd_row H.files hk
    rcases hkd k hX with e | e <;> rw [e] at h1 <;> exact absurd h1 (by decide))
  have hpf : pfs (h.fl.set i ⟨f.g, A', c'⟩) = pfs h.fl := by
    unfold pfs
    rw [List.map_set]
    have h9 := (List.getElem?_eq_some_iff.1 hf).2
    have e : (Value.pointer (some ⟨f.g, 0, none⟩)) = (h.fl.map fun f => Value.pointer (some ⟨f.g, 0, none⟩))[i]'(by rw [List.length_map]; exact hil) := by rw [List.getElem_map, h9]
    show List.set _ i (Value.pointer (some ⟨f.g, 0, none⟩)) = _
    conv => lhs; rw [e]
    exact List.set_getElem_self _
  refine ⟨⟨?_, H.base, ?_, by simp [hfl], fun j f2 x2 hf2 hx2 => ?_, fun j k f2 f3 hjk hf2 hf3 => ?_, hm.1, hm.2, H.nl, H.nbase, ht⟩, rfl, Keeps.weak hK (fun k hk => .inr (.inr (.inr (.inr (.inr ⟨f, List.mem_of_getElem? hf, hk⟩))))), fun k hk => ?_⟩
  · rw [hg1]; simp [dcs]
  · show World.ownsRow _ B _ 1 (.slice h.fa (d.files.set i x').length h.fc) (d.files.set i x').length (pfs (h.fl.set i ⟨f.g, A', c'⟩))
    rw [List.length_set, hpf]
    exact hfr
  · by_cases hji : i = j
    · subst hji
      have hf2' : f2 = ⟨f.g, A', c'⟩ := by rw [List.getElem?_set_self hil] at hf2; injection hf2 with hf2; exact hf2.symm
      have hx2' : x2 = x' := by rw [List.getElem?_set_self (by omega)] at hx2; injection hx2 with hx2; exact hx2.symm
      subst hf2' hx2'
      exact ⟨hb, ho, hF.base⟩
    · rw [List.getElem?_set_ne hji] at hf2 hx2
      have hap := H.apart i j f f2 hji hf hf2
      have hF2 := H.each j f2 x2 hf2 hx2
      refine hF2.keepsX hK (fun hX => ?_) (fun k hk hX => ?_)
      · rcases hX with e | e
        · exact hap.1 e.symm
        · have h1 := kd_cells hF2.blk
          rw [kd_row hF.own e] at h1
          exact absurd h1 (by decide)
      · rcases hX with e | e
        · subst e
          have h1 := kd_row hF2.own hk
          rw [kd_cells hF.blk] at h1
          exact absurd h1 (by decide)
        · exact hap.2 k e hk
  · have hnew : ∀ (m : Nat) (f4 : Fl), m ≠ i → h.fl[m]? = some f4 → ∀ y, inA A' y → ¬ inA f4.A y := fun m f4 hm4 hf4 y hy hy4 => by
      rcases hat y hy with h9 | h9
      · exact (H.apart i m f f4 (fun e => hm4 e.symm) hf hf4).2 y h9 hy4
      · have h8 := (inA_own (H.each m f4 (d.files[m]'(by have := (List.getElem?_eq_some_iff.1 hf4).1; omega)) hf4 (List.getElem?_eq_getElem (by have := (List.getElem?_eq_some_iff.1 hf4).1; omega))).own hy4).2
        omega
    by_cases hji : i = j
    · subst hji
      rw [List.getElem?_set_self hil] at hf2
      rw [List.getElem?_set_ne hjk] at hf3
      injection hf2 with hf2
      subst hf2
      exact ⟨(H.apart i k f f3 hjk hf hf3).1, fun y hy hy3 => hnew k f3 (fun e => hjk e.symm) hf3 y hy hy3⟩
    · rw [List.getElem?_set_ne hji] at hf2
      by_cases hki : i = k
      · subst hki
        rw [List.getElem?_set_self hil] at hf3
        injection hf3 with hf3
        subst hf3
        exact ⟨(H.apart j i f2 f hjk hf2 hf).1, fun y hy hy3 => hnew j f2 hjk hf2 y hy3 hy⟩
      · rw [List.getElem?_set_ne hki] at hf3
        exact H.apart j k f2 f3 hjk hf2 hf3
  · rcases hk with hk | hk | hk | hk | hk | ⟨f2, hf2, hk⟩
    · exact .inl (.inl hk)
    · exact .inl (.inr (.inl hk))
    · exact .inl (.inr (.inr (.inl hk)))
    · exact .inl (.inr (.inr (.inr (.inl hk))))
    · exact .inl (.inr (.inr (.inr (.inr (.inl hk)))))
    · rcases List.mem_or_eq_of_mem_set hf2 with hf2 | rfl
      · exact .inl (.inr (.inr (.inr (.inr (.inr ⟨f2, hf2, hk⟩)))))
      · rcases hk with rfl | hk
        · exact .inl (.inr (.inr (.inr (.inr (.inr ⟨f, List.mem_of_getElem? hf, .inl rfl⟩)))))
        · rcases hat k hk with h9 | h9
          · exact .inl (.inr (.inr (.inr (.inr (.inr ⟨f, List.mem_of_getElem? hf, .inr h9⟩)))))
          · exact .inr h9
end
end Go.Proofs.Ytnjmekjaingniaa

/-
  The walk of the disk's Create.
-/
namespace Go.Proofs.Ytnjmekjaingniaa
open Go.RowKit Go.Maps
set_option linter.unusedVariables false
set_option linter.unusedSimpArgs false

def createD (d : Dk) (s : List UInt8) : Dk × Nat :=
  if (callN [s] d).2 ≠ 0 then ((callN [s] d).1, (callN [s] d).2)
  else if Maps.has d.names (nk s) = true then ((callN [s] d).1, 12)
  else if 64 ≤ Maps.size d.names then ((callN [s] d).1, 65)
  else ({ (callN [s] d).1 with names := d.names.put (nk s) (fiv d.files.length), turns := d.turns ++ [⟨1, d.files.length, s, []⟩], files := d.files ++ [⟨[], 0⟩] }, 0)
theorem MOk.more {D : Mp} {n m : Nat} (h : MOk D n) (hnm : n ≤ m) : MOk D m := ⟨h.1, fun kl hk => by
  obtain ⟨i, hi, r⟩ := h.2 kl hk
  exact ⟨i, by omega, r⟩⟩
theorem MOk.put {D : Mp} {n i : Nat} (h : MOk D n) (hi : i < n) (s : List UInt8) : MOk (D.put (nk s) (fiv i)) n := by
  refine ⟨h.1.put (show WideAt.IsKeyLit (nk s) from trivial) _, fun kl hk => ?_⟩
  by_cases hkl : kl = nk s
  · subst hkl
    exact ⟨i, hi, fun z => Maps.atKey_put_same h.1.isMap (show WideAt.IsKeyLit (nk s) from trivial) _ z⟩
  · rw [Maps.has_put_other hkl] at hk
    obtain ⟨j, hj, hat⟩ := h.2 kl hk
    exact ⟨j, hj, fun z => by rw [Maps.atKey_put_other hkl]; exact hat z⟩
theorem MOk.del {D : Mp} {n : Nat} (h : MOk D n) (s : List UInt8) : MOk (D.del (nk s)) n := by
  refine ⟨h.1.del _, fun kl hk => ?_⟩
  by_cases hkl : kl = nk s
  · subst hkl
    rw [Maps.has_del_same] at hk
    cases hk
  · rw [Maps.has_del_other hkl] at hk
    obtain ⟨j, hj, hat⟩ := h.2 kl hk
    exact ⟨j, hj, fun z => by rw [Maps.atKey_del_other hkl]; exact hat z⟩
theorem createD_ok {d : Dk} (h : DkOk d) (s : List UInt8) (hnf : d.files.length < 1000000) (hnt : d.turns.length < 1000000) : DkOk (createD d s).1 := by
  have hc := callN_ok (L := [s]) h
  obtain ⟨h1, h2, h3, h4, h5, h6, h7, h8⟩ := callN_same [s] d
  unfold createD
  split
  · exact hc
  · split
    · exact hc
    · split
      · exact hc
      · refine ⟨?_, ?_, ?_, ?_, ?_, ?_, hc.sl, ?_, hc.s, hc.f, hc.q⟩
        · exact (h.nm.more (by simp)).put (by simp) s
        · show MOk (callN [s] d).1.lasted _
          rw [h3]; exact h.la.more (by simp)
        · intro t ht
          rcases List.mem_append.1 ht with ht | ht
          · rcases h.tn t ht with h9 | h9
            · exact .inl (by simp; omega)
            · exact .inr h9
          · rw [List.mem_singleton] at ht
            subst ht
            exact .inl (by simp)
        · simp; omega
        · simp; omega
        · show Maps.size (d.names.put _ _) ≤ _
          rw [Maps.size_put h.nm.1]
          have := h.sn
          split <;> omega
        · intro f hf
          rcases List.mem_append.1 hf with hf | hf
          · exact h.fb f hf
          · rw [List.mem_singleton] at hf; subst hf; exact ⟨by simp, by simp⟩
theorem turnsT : SlT Try.prog 79 91 4 48 := SlT.mk' Try.underlying79 (z := .agg #[.int .i64 0, .int .i64 0, .string ByteArray.empty, .string ByteArray.empty]) (by kernel_rfl) rfl (by decide)
theorem filesT : SlT Try.prog 78 88 1 8 := SlT.mk' Try.underlying78 (z := .pointer none) (by kernel_rfl) rfl (by decide)
set_option maxRecDepth 100000 in
set_option maxHeartbeats 1600000 in
theorem create_any {B : Nat} {h : Hp} {d : Dk} {w : World} (H : DiskAt B h d w) (hok : DkOk d) (hcl : d.calls ≤ 1000000000) (hnf : d.files.length < 1000000) (hnt : d.turns.length < 1000000) (s : List UInt8) (hs : s.length ≤ 9223372036854775807) :
    Calls Try.prog 20 #[.pointer (some ⟨h.g, 0, none⟩), .string (tx s)] w fun e w' => ∃ h', e = .returned (.int .i64 ((createD d s).2 : Int)) ∧ DiskAt B h' (createD d s).1 w' ∧ DkTo h w h' w' := by
  have hb : Rd (w.alloc (.cells #[.string (tx s)] 9)) (w.alloc (.cells #[.string (tx s)] 9)).heap.size 1 (some ⟨w.heap.size, 0, none⟩) 1 (svs [s]) := Rd.box w (.string (tx s)) 9
  have H0 := H.up ((Up.refl w).alloc (.cells #[.string (tx s)] 9))
  have D0 : DkTo h w h (w.alloc (.cells #[.string (tx s)] 9)) := DkTo.up ((Up.refl w).alloc (.cells #[.string (tx s)] 9))
  have hcr : createD d s = createD d s := rfl
  conv at hcr => rhs; unfold createD
  have HCR := Lib.hid hcr
  have hok1 := callN_ok (L := [s]) hok
  have hsame := callN_same [s] d
  have HSM := Lib.hid hsame
  clear hcr hsame
  go_enter Try.func20, Try.ntmps20
  go_wp2_with fail
  refine (call_any H0 hok hcl [s] (some ⟨w.heap.size, 0, none⟩) 1 1 hb (fun x hx => by rw [List.mem_singleton] at hx; subst hx; exact hs) (by omega)).mono ?_
  rintro e w1 ⟨rfl, H1, D1⟩
  have D01 := D0.trans D1
  clear H0 D0 D1 hb
  generalize callN [s] d = r at *
  obtain ⟨d1, ec⟩ := r
  (try dsimp only at *)
  by_cases he : ec ≠ 0
  · have heb : ((ec : Int) != 0) = true := by rw [bne_iff_ne]; omega
    have hcr2 := HCR.out
    rw [if_pos he] at hcr2
    have HC2 := Lib.hid hcr2
    clear hcr2 he
    go_wp2_with fail
    go_ret
    rw [HC2.out]
    exact ⟨h, rfl, H1, D01⟩
  · have heb : ((ec : Int) != 0) = false := by rw [bne_eq_false_iff_eq]; omega
    have hcr2 := HCR.out
    rw [if_neg he] at hcr2
    have HC2 := Lib.hid hcr2
    clear hcr2 he HCR
    obtain ⟨e1, e2, e3, e4, e5, e6, e7, e8⟩ := HSM.out
    go_wp2_with fail
    refine (find_any H1 hok1 s hs).mono ?_
    rintro e w2 ⟨rfl, hfi⟩
    rcases hfi with ⟨hfi, rfl⟩ | ⟨i, f, x, hfi, hf, hx, rfl⟩
    · have hh : Maps.has d.names (nk s) = false := by
        unfold findI at hfi
        rw [e2] at hfi
        split at hfi
        · cases hfi
        · rename_i h9; simpa using h9
      have hcr3 := HC2.out
      rw [if_neg (by rw [hh]; decide)] at hcr3
      have c2 : w1.cell? ⟨h.g, 2, none⟩ = some (.map (some h.nb)) := blk_cell H1.hd 2
      by_cases h64 : 64 ≤ Maps.size d.names
      · rw [if_pos h64] at hcr3
        have HC3 := Lib.hid hcr3
        have h64i : (64 : Int) ≤ (Maps.size d1.names : Int) := by rw [e2]; omega
        clear hcr3 hfi hh h64 e1 e2 e3 e4 e5 HC2
        go_wp2_with (at_len; refine wpList_len_own _ rfl _ 77 rfl 9 3 Try.underlying77 _ h.nb _ d1.names rfl H1.names ?_)
        go_ret
        rw [HC3.out]
        exact ⟨h, rfl, H1, D01⟩
      · rw [if_neg h64] at hcr3
        have HC3 := Lib.hid hcr3
        have h64i : ¬ (64 : Int) ≤ (Maps.size d1.names : Int) := by rw [e2]; omega
        clear hcr3 hfi hh e1 e2 e3 e4 e5 HC2
        go_wp2_with (at_len; refine wpList_len_own _ rfl _ 77 rfl 9 3 Try.underlying77 _ h.nb _ d1.names rfl H1.names ?_)
        have hkey := key_str s hs
        have HK := Lib.hid hkey
        have H2 := H1.up (Up.drew (Up.refl w1))
        have D2 := D01.trans (DkTo.up (h := h) (Up.drew (Up.refl w1)))
        have hsn := hok1.sn
        have c1 : w1.cell? ⟨h.g, 1, none⟩ = some (.slice h.fa d1.files.length h.fc) := blk_cell H1.hd 1
        clear hkey
        go_still_tail 10, (by kernel_rfl)
        change wpList _ _ _ _ _ w1.drew
        generalize w1.drew = w2 at *
        clear c1 c2
        go_upto_region 9 with (at_mapUpdate; refine wpList_mapUpdate_in _ rfl _ _ _ 77 rfl 9 3 strKey Try.underlying77 (plainElem Try.prog 3) h.nb _ d1.names rfl H2.names (by unfold maxLen; omega) _ _ (nk s) rfl rfl HK.out _ [] (plainElem_int Try.underlying3 (WalkArith.wf_i64 (by have := hok1.nf; omega))) ?_; intro w3 hm3 hturn3)
        obtain ⟨H3, D3⟩ := H2.setNames (D' := d1.names.put (nk s) (fiv d1.files.length)) (keepsMap hturn3.grown) hm3
        have D23 := D2.trans D3
        clear H2 D2 D3 hm3 hturn3
        obtain ⟨d3, hd3⟩ : ∃ d3 : Dk, d3 = { d1 with names := d1.names.put (nk s) (fiv d1.files.length) } := ⟨_, rfl⟩
        rw [← hd3] at H3
        have f1 : d3.files = d1.files := by rw [hd3]
        have f4 : d3.turns.length ≤ 1000000 := by rw [hd3]; exact hok1.nt
        have f5 : d3.files.length ≤ 1000000 := by rw [hd3]; exact hok1.nf
        have HD3 := Lib.hid hd3
        clear hd3 hok1 hsn f1
        have hxo : ∀ g, (g = h.g ∨ inA h.ta g) → g < w3.heap.size := by
          rintro g (rfl | hg)
          · exact (H3.lt (.inl rfl)).2
          · exact (inA_own H3.turns hg).2
        have hS : ∀ W, Rg.Keeps (fun g => g = h.g ∨ inA h.ta g) w3.drew W → Rg.Keeps (fun g => g = h.g ∨ inA h.ta g) w3.drew W := fun W hK => hK
        have hbB : B ≤ w3.heap.size := by have := H3.lt (.inl rfl); omega
        apply Rg.region_own 17 _ (fun g => g = h.g ∨ inA h.ta g) (fun W => W.heap[h.g]? = some (.cells (dcs d3 h) 86 (0, 0)) ∧ W.ownsRow B 91 4 (.slice h.ta d3.turns.length h.tc) d3.turns.length (tcs d3.turns)) rfl (by kernel_rfl) (by kernel_rfl) hxo ⟨H3.hd, H3.turns⟩
          (fun v1 v2 hF hs => ⟨(hs.block h.g (Array.getElem?_eq_some_iff.1 hF.1).1 (.inr (.inl rfl))).trans hF.1, row_sta (Y := fun g => (g < w3.heap.size ∧ ¬ (g = h.g ∨ inA h.ta g)) ∨ (g = h.g ∨ inA h.ta g)) hF.2 ⟨hs.size, fun g hg hy => hs.block g hg (hy.elim id (fun ho => .inr (.inr (ob_inA ho))))⟩⟩) hS
        · intro QN hQN
          iterate 4 (apply Rg.RK.ok; (· intro vs w1 hS; go_simp; with_reducible rfl); (· rfl); simp only [Act.put, List.setIfInBounds_toArray, List.set_cons_zero, List.set_cons_succ, Nat.reduceAdd])
          apply Rg.RK.okU [17]
          · intro vs w9 hS9 hf
            obtain ⟨⟨hh, -⟩, -⟩ := hf
            have c4 : w9.cell? ⟨h.g, 4, none⟩ = some (.slice h.ta d3.turns.length h.tc) := blk_cell hh 4
            clear hh hS9
            go_simp
            with_reducible rfl
          · rfl
          simp only [Act.put, List.setIfInBounds_toArray, List.set_cons_zero, List.set_cons_succ, Nat.reduceAdd]
          iterate 3 (apply Rg.RK.ok; (· intro vs w1 hS; go_simp; with_reducible rfl); (· rfl); simp only [Act.put, List.setIfInBounds_toArray, List.set_cons_zero, List.set_cons_succ, Nat.reduceAdd])
          apply Rg.RK.okU [17]
          · intro vs w9 hS9 hf
            obtain ⟨⟨hh, -⟩, -⟩ := hf
            have c1 : w9.cell? ⟨h.g, 1, none⟩ = some (.slice h.fa d3.files.length h.fc) := blk_cell hh 1
            clear hh hS9
            go_simp
            with_reducible rfl
          · rfl
          simp only [Act.put, List.setIfInBounds_toArray, List.set_cons_zero, List.set_cons_succ, Nat.reduceAdd]
          iterate 3 (apply Rg.RK.ok; (· intro vs w1 hS; go_simp; with_reducible rfl); (· rfl); simp only [Act.put, List.setIfInBounds_toArray, List.set_cons_zero, List.set_cons_succ, Nat.reduceAdd])
          have hpc : ∀ y ∈ Tn.cs ⟨1, d3.files.length, s, []⟩, y.oneCell' = true := fun y hy => by
            simp only [Tn.cs, List.mem_cons, List.not_mem_nil, or_false] at hy
            rcases hy with rfl | rfl | rfl | rfl <;> rfl
          apply Rg.RK.opn (fun v W1 => W1.ownsRow w3.heap.size 91 4 v 1 (Tn.cs ⟨1, d3.files.length, s, []⟩)) Rg.ob [] []
          · exact fun v W1 W2 h hs => row_sta h hs
          · rfl
          · intro vs w9 hK hS9 _ K hKK
            go_simp
            exact hKK.out _ _ (row_new w9 _ _ hK.size rfl (by omega)) (Rg.Keeps.of_up ((Up.refl _).alloc _)) (by rintro g rfl; exact ⟨by simp, .inl (Nat.le_refl _)⟩)
          simp only [Act.put, List.setIfInBounds_toArray, List.set_cons_zero, List.set_cons_succ, Nat.reduceAdd]
          apply Rg.RK.opn (fun v W => W.heap[h.g]? = some (.cells (dcs d3 h) 86 (0, 0)) ∧ W.ownsRow B 91 4 v (d3.turns.length + 1) (tcs d3.turns ++ Tn.cs ⟨1, d3.files.length, s, []⟩) ∧ ∀ k, Rg.ob v k → inA h.ta k ∨ w3.heap.size ≤ k) (fun v g => g = h.g ∨ Rg.ob v g) [17, 12] [17]
          · rintro v v1 v2 ⟨f1, f2, f3⟩ hs
            exact ⟨(hs.block h.g (Array.getElem?_eq_some_iff.1 f1).1 (.inr (.inl rfl))).trans f1, row_sta (Y := fun g => (g < w3.drew.heap.size ∧ ¬ (g = h.g ∨ inA h.ta g)) ∨ (g = h.g ∨ Rg.ob v g)) f2 ⟨hs.size, fun g hg hy => hs.block g hg (hy.elim id (fun ho => .inr (.inr ho)))⟩, f3⟩
          · rfl
          · intro vs w9 hK hS9 hf K hKK
            obtain ⟨⟨hh, hrow⟩, h12, -⟩ := hf
            have h12' : w9.ownsRow w3.heap.size 91 4 (vs 12) 1 (Tn.cs ⟨1, d3.files.length, s, []⟩) := h12
            obtain ⟨A12, c12, hv12⟩ := own_form h12'
            rw [hv12] at h12'
            (try dsimp only at hKK ⊢)
            rw [hv12] at hKK ⊢
            refine wp_append_rd _ _ _ turnsT rfl rfl rfl hrow (Rd.own h12') hpc (by omega) (by omega) (Nat.le_trans hbB hK.size) fun v' w5 ho' hg' hat' => ?_
            have hKr := keepsRow hrow hg'
            refine hKK.out _ _ ⟨?_, ho', fun k hk => ?_⟩ (Keeps.weak hKr fun y hy => ⟨17, List.mem_singleton.2 rfl, .inr hy⟩) (fun y hy => ?_)
            · refine (hKr.block h.g (Array.getElem?_eq_some_iff.1 hh).1 (fun hx => ?_)).trans hh
              have h1 := kd_row hrow hx
              rw [kd_cells hh] at h1
              exact absurd h1 (by decide)
            · obtain ⟨A', c', rfl⟩ := own_form ho'
              rcases at_inA hat' k (ob_inA hk) with h9 | h9
              · exact .inl h9
              · exact .inr (Nat.le_trans hK.size h9)
            · rcases hy with rfl | hy
              · exact ⟨Nat.lt_of_lt_of_le (Array.getElem?_eq_some_iff.1 hh).1 hKr.size, .inr ⟨17, List.mem_singleton.2 rfl, .inl rfl⟩⟩
              · obtain ⟨A', c', rfl⟩ := own_form ho'
                refine ⟨(inA_own ho' (ob_inA hy)).2, ?_⟩
                rcases at_inA hat' y (ob_inA hy) with h9 | h9
                · exact .inr ⟨17, List.mem_singleton.2 rfl, .inr h9⟩
                · exact .inl h9
          simp only [Act.put, List.setIfInBounds_toArray, List.set_cons_zero, List.set_cons_succ, Nat.reduceAdd]
          iterate 2 (apply Rg.RK.ok; (· intro vs w1 hS; go_simp; with_reducible rfl); (· rfl); simp only [Act.put, List.setIfInBounds_toArray, List.set_cons_zero, List.set_cons_succ, Nat.reduceAdd])
          apply Rg.RK.opD (fun vs W => ∃ T2 tc2, vs 13 = .slice T2 (d3.turns.length + 1) tc2 ∧ W.heap[h.g]? = some (.cells (dcs { d3 with turns := d3.turns ++ [⟨1, d3.files.length, s, []⟩] } { h with ta := T2, tc := tc2 }) 86 (0, 0)) ∧ W.ownsRow B 91 4 (.slice T2 (d3.turns.length + 1) tc2) (d3.turns.length + 1) (tcs d3.turns ++ Tn.cs ⟨1, d3.files.length, s, []⟩) ∧ ∀ k, inA T2 k → inA h.ta k ∨ w3.heap.size ≤ k) (fun vs g => g = h.g ∨ Rg.ob (vs 13) g) [13] [13] [13] (fun vs vs' h => by rw [h 13 (by simp)]; exact ⟨rfl, rfl⟩)
          · rintro vs v1 v2 ⟨T2, tc2, f0, f1, f2, f3⟩ hs
            exact ⟨T2, tc2, f0, (hs.block h.g (Array.getElem?_eq_some_iff.1 f1).1 (.inr (.inl rfl))).trans f1, row_sta (Y := fun g => (g < w3.drew.heap.size ∧ ¬ (g = h.g ∨ inA h.ta g)) ∨ (g = h.g ∨ Rg.ob (vs 13) g)) f2 ⟨hs.size, fun g hg hy => hs.block g hg (hy.elim id (fun ho => .inr (.inr (by rw [f0]; exact ho))))⟩, f3⟩
          · rfl
          · intro vs w9 hK hS9 hf K hKK
            obtain ⟨h13, -⟩ := hf
            obtain ⟨hh, hrow, hat⟩ := h13
            have hrow' : w9.ownsRow B 91 4 (vs 13) (d3.turns.length + 1) (tcs d3.turns ++ Tn.cs ⟨1, d3.files.length, s, []⟩) := hrow
            obtain ⟨T2, tc2, hv13⟩ := own_form hrow'
            have t4 : w9.cell? ⟨h.g, 4, none⟩ = some (.slice h.ta d3.turns.length h.tc) := blk_cell hh 4
            have s4 := blk_free hh 4
            have hset := setc_heap w9 h.g 4 (.slice T2 (d3.turns.length + 1) tc2) _ _ hh
            have hK9 : Rg.Keeps (fun k => k = h.g) w9 (w9.setCell ⟨h.g, 4, none⟩ (.slice T2 (d3.turns.length + 1) tc2)) := setc_keeps _ _ _ _ _ (Rg.Keeps.refl _ _)
            rw [hv13] at hrow'
            have hat2 : ∀ k, inA T2 k → inA h.ta k ∨ w3.heap.size ≤ k := fun k hk => hat k (by
              show Rg.ob (vs 13) k
              rw [hv13]
              obtain ⟨a, rfl, e⟩ := hk
              exact e)
            have hrow2 := own_keepsX hrow' hK9 (fun k hk e => by
              have h1 := kd_row hrow' hk
              rw [e, kd_cells hh] at h1
              exact absurd h1 (by decide))
            (try dsimp only at hKK ⊢)
            rw [hv13] at hKK ⊢
            have HV := Lib.hid hv13
            have HH := Lib.hid hh
            clear hv13 hat hrow hh
            go_simp
            refine hKK.out undef _ ⟨T2, tc2, ?_, ?_, hrow2, hat2⟩ (Keeps.weak hK9 fun y hy => ⟨13, List.mem_singleton.2 rfl, .inl hy⟩) (fun y hy => ?_)
            · rw [Rg.upd_ne _ _ (by decide)]; exact HV.out
            · rw [hset]
              simp [dcs]
            · have hy' : y = h.g ∨ Rg.ob (vs 13) y := by simpa only [Rg.upd_ne _ _ (show 13 ≠ 16 by decide)] using hy
              rcases hy' with rfl | hy'
              · exact ⟨Nat.lt_of_lt_of_le (Array.getElem?_eq_some_iff.1 HH.out).1 hK9.size, .inr ⟨13, List.mem_singleton.2 rfl, .inl rfl⟩⟩
              · rw [HV.out] at hy'
                refine ⟨(inA_own hrow2 (ob_inA hy')).2, .inr ⟨13, List.mem_singleton.2 rfl, .inr ?_⟩⟩
                show Rg.ob (vs 13) y
                rw [HV.out]; exact hy'
          simp only [Act.put, List.setIfInBounds_toArray, List.set_cons_zero, List.set_cons_succ, Nat.reduceAdd]
          apply Rg.RK.fin [16]
          intro vs w9 hK hS9 hf
          obtain ⟨h16, -⟩ := hf
          obtain ⟨T2, tc2, hv13, hh, hrow, hat⟩ := h16
          refine hQN.out _ _ ?_
          clear hQN hS9
          (try dsimp only)
          rw [hv13]
          have H3d := H3.up (Up.drew (Up.refl w3))
          obtain ⟨H4, K4, F4⟩ := H3d.setTurnsF (d3.turns ++ [⟨1, d3.files.length, s, []⟩]) (m0 := w3.heap.size) hh (by rw [List.length_append]; unfold tcs at hrow ⊢; rw [List.flatMap_append]; simpa using hrow) hK (Nat.le_refl _) hat
          have D4 : DkTo h w { h with ta := T2, tc := tc2 } w9 := D23.trans ⟨rfl, ⟨K4.os, K4.tape, K4.output, K4.size, K4.block⟩, F4⟩
          clear hv13 hh hrow hat hK K4 F4 H3d H3 D23 hxo hS hbB hpc
          have c1 : w9.cell? ⟨h.g, 1, none⟩ = some (.slice h.fa d3.files.length h.fc) := blk_cell H4.hd 1
          have hua : Up w9 (w9.alloc (.cells #[.slice none 0 0, .int .i64 0] 93)) := (Up.refl w9).alloc _
          have hub : Up w9 ((w9.alloc (.cells #[.slice none 0 0, .int .i64 0] 93)).alloc (.cells #[.pointer (some ⟨w9.heap.size, 0, none⟩)] 88)) := hua.alloc _
          have H5 := H4.up hub
          have hf5 : World.ownsRow ((w9.alloc (.cells #[.slice none 0 0, .int .i64 0] 93)).alloc (.cells #[.pointer (some ⟨w9.heap.size, 0, none⟩)] 88)) B 88 1 (.slice h.fa d3.files.length h.fc) d3.files.length (pfs h.fl) := H5.files
          have hbox := Rd.box (w9.alloc (.cells #[.slice none 0 0, .int .i64 0] 93)) (.pointer (some ⟨w9.heap.size, 0, none⟩)) 88
          rw [show (w9.alloc (.cells #[.slice none 0 0, .int .i64 0] 93)).heap.size = w9.heap.size + 1 from World.size_alloc _ _] at hbox
          have hgf : ((w9.alloc (.cells #[.slice none 0 0, .int .i64 0] 93)).alloc (.cells #[.pointer (some ⟨w9.heap.size, 0, none⟩)] 88)).heap[w9.heap.size]? = some (.cells #[.slice none 0 0, .int .i64 0] 93 (0, 0)) := by
            rw [Below.heap_alloc _ _ _ (by simp)]
            exact heap_alloc_new w9 _
          have hgn := fun hk => (H4.lt (k := w9.heap.size) hk).2
          have hbB : B ≤ w9.heap.size := by have := H4.lt (.inl rfl); omega
          have hbB2 : B ≤ ((w9.alloc (.cells #[.slice none 0 0, .int .i64 0] 93)).alloc (.cells #[.pointer (some ⟨w9.heap.size, 0, none⟩)] 88)).heap.size := by rw [World.size_alloc, World.size_alloc]; omega
          have hsz : w9.heap.size ≤ ((w9.alloc (.cells #[.slice none 0 0, .int .i64 0] 93)).alloc (.cells #[.pointer (some ⟨w9.heap.size, 0, none⟩)] 88)).heap.size := hub.size
          have hpp : ∀ y ∈ [Value.pointer (some ⟨w9.heap.size, 0, none⟩)], y.oneCell' = true := fun y hy => by rw [List.mem_singleton] at hy; subst hy; rfl
          go_wp2_with (at_builtin; refine wpList_append_rd _ filesT (news := [.pointer (some ⟨w9.heap.size, 0, none⟩)]) hf5 hbox hpp (by omega) (by omega) hbB2 rfl rfl rfl rfl ?_; intro v3 w6 ho6 hg6 hat6; obtain ⟨F2, fc2, rfl⟩ := own_form ho6; have y1 : w6.cell? ⟨h.g, 1, none⟩ = some (.slice h.fa d3.files.length h.fc) := blk_cell (H5.gkeep (keepsRow hf5 hg6) (fun k hk => by rw [kd_row hf5 hk]; decide)) 1; have z1 := blk_free (H5.gkeep (keepsRow hf5 hg6) (fun k hk => by rw [kd_row hf5 hk]; decide)) 1)
          go_ret
          obtain ⟨H6, K6, F6⟩ := H5.addFile hgf (fun hk => Nat.lt_irrefl _ (hgn hk)) hbB (m0 := w9.heap.size) (Nat.le_refl _) hsz ho6 (keepsRow hf5 hg6) (fun k hk => (at_inA hat6 k hk).imp id (fun h9 => Nat.le_trans hsz h9))
          have D56 : DkTo { h with ta := T2, tc := tc2 } w9 { h with fa := F2, fc := fc2, fl := h.fl ++ [⟨w9.heap.size, none, 0⟩], ta := T2, tc := tc2 } (w6.setCell ⟨h.g, 1, none⟩ (.slice F2 (d3.files.length + 1) fc2)) := ⟨rfl, Keeps.trans2 (Rg.Keeps.of_up hub) K6, F6⟩
          have D6 := D4.trans D56
          rw [HC3.out]
          obtain ⟨e1, e2, e3, e4, -⟩ := HSM.out
          refine ⟨rfl, { h with fa := F2, fc := fc2, fl := h.fl ++ [⟨w9.heap.size, none, 0⟩], ta := T2, tc := tc2 }, ?_, D6⟩
          have hd9 := HD3.out
          subst hd9
          (try dsimp only at H6)
          rw [e1, e2, e4] at H6
          (try dsimp only)
          rw [e1]
          exact H6
        · kernel_rfl
    · have hh : Maps.has d.names (nk s) = true := by
        unfold findI at hfi
        rw [e2] at hfi
        split at hfi
        · assumption
        · cases hfi
      have hcr3 := HC2.out
      rw [if_pos hh] at hcr3
      have HC3 := Lib.hid hcr3
      clear hcr3 hfi hh hf hx e1 e2 e3 e4 e5 HC2
      go_wp2_with fail
      go_ret
      rw [HC3.out]
      exact ⟨h, rfl, H1, D01⟩
end Go.Proofs.Ytnjmekjaingniaa

/-
  What a slice reads as, behind a change of blocks that it does not lie in.
-/
namespace Go.Proofs.Ytnjmekjaingniaa
open Go.RowKit
set_option linter.unusedVariables false
theorem Rd.keepsX {w w' : World} {B sz n : Nat} {A : Option Addr} {xs : List Value} {X : Nat → Prop} (h : Rd w B sz A n xs) (hB : B ≤ w.heap.size) (hne : ∀ a, A = some a → ¬ X a.block) (hK : Rg.Keeps X w w') : Rd w' w'.heap.size sz A n xs := by
  refine ⟨h.1, fun hn => ?_⟩
  obtain ⟨b, o, rfl, hb, hc⟩ := h.2 hn
  refine ⟨b, o, rfl, Nat.lt_of_lt_of_le (Nat.lt_of_lt_of_le hb hB) hK.size, fun j u hu => ?_⟩
  exact (World.cell?_of_block (hK.block b (Nat.lt_of_lt_of_le hb hB) (hne _ rfl))).trans (hc j u hu)
theorem Rd.keepsX0 {w w' : World} {B sz n : Nat} {A : Option Addr} {xs : List Value} {X : Nat → Prop} (h : Rd w B sz A n xs) (hB : B ≤ w.heap.size) (hne : 0 < n → ∀ a, A = some a → ¬ X a.block) (hK : Rg.Keeps X w w') : Rd w' w'.heap.size sz A n xs := by
  refine ⟨h.1, fun hn => ?_⟩
  exact (h.keepsX hB (hne hn) hK).2 hn
end Go.Proofs.Ytnjmekjaingniaa

/-
  The walks of the disk's Append, Sync, Read.
-/
namespace Go.Proofs.Ytnjmekjaingniaa
open Go.RowKit Go.Maps
set_option linter.unusedVariables false
set_option linter.unusedSimpArgs false

def fileOf (d : Dk) (i : Nat) : Fi := d.files.getD i ⟨[], 0⟩
theorem fileOf_eq {d : Dk} {i : Nat} {x : Fi} (h : d.files[i]? = some x) : fileOf d i = x := by unfold fileOf; rw [List.getD_eq_getElem?_getD, h]; rfl
def appendD (d : Dk) (s b : List UInt8) : Dk × Nat :=
  if (callN [s] d).2 ≠ 0 then ((callN [s] d).1, (callN [s] d).2)
  else match findI d s with
  | none => ((callN [s] d).1, 11)
  | some i =>
    if 250000 < b.length ∨ 250000 < (fileOf d i).b.length + b.length then ((callN [s] d).1, 2)
    else if d.quota < usedD d + b.length then ((callN [s] d).1, 15)
    else ({ (callN [s] d).1 with files := d.files.set i ⟨(fileOf d i).b ++ b, (fileOf d i).last⟩ }, 0)
def syncD (d : Dk) (s : List UInt8) : Dk × Nat :=
  if (callN [s] d).2 ≠ 0 then ((callN [s] d).1, (callN [s] d).2)
  else match findI d s with
  | none => ((callN [s] d).1, 11)
  | some i => ({ (callN [s] d).1 with files := d.files.set i ⟨(fileOf d i).b, (fileOf d i).b.length⟩ }, 0)
def readD (d : Dk) (s : List UInt8) : List UInt8 × Nat :=
  if nameB s = false then ([], 10)
  else if d.dead = true then ([], 50)
  else match findI d s with
  | none => ([], 11)
  | some i => ((fileOf d i).b, 0)
theorem setFile_ok {d : Dk} (h : DkOk d) (i : Nat) (x : Fi) (hx : x.b.length ≤ 250000 ∧ x.last ≤ x.b.length) : DkOk { d with files := d.files.set i x } := by
  refine ⟨by simpa using h.nm, by simpa using h.la, by simpa using h.tn, by simpa using h.nf, h.nt, h.sn, h.sl, fun f hf => ?_, h.s, h.f, h.q⟩
  rcases List.mem_or_eq_of_mem_set hf with hf | rfl
  · exact h.fb f hf
  · exact hx
theorem fileOf_ok {d : Dk} (h : DkOk d) (i : Nat) : (fileOf d i).b.length ≤ 250000 ∧ (fileOf d i).last ≤ (fileOf d i).b.length := by
  unfold fileOf
  rw [List.getD_eq_getElem?_getD]
  cases hx : d.files[i]? with
  | none => exact ⟨Nat.zero_le _, Nat.le_refl _⟩
  | some x => exact h.fb x (List.mem_of_getElem? hx)
theorem appendD_ok {d : Dk} (h : DkOk d) (s b : List UInt8) : DkOk (appendD d s b).1 := by
  have hc := callN_ok (L := [s]) h
  obtain ⟨h1, -⟩ := callN_same [s] d
  unfold appendD
  split
  · exact hc
  · split
    · exact hc
    · rename_i i hi
      split
      · exact hc
      · split
        · exact hc
        · rename_i hl hq
          have h9 := setFile_ok hc i ⟨(fileOf d i).b ++ b, (fileOf d i).last⟩ ⟨by simp; omega, by simp; have := (fileOf_ok h i).2; omega⟩
          rw [h1] at h9
          exact h9
theorem syncD_ok {d : Dk} (h : DkOk d) (s : List UInt8) : DkOk (syncD d s).1 := by
  have hc := callN_ok (L := [s]) h
  obtain ⟨h1, -⟩ := callN_same [s] d
  unfold syncD
  split
  · exact hc
  · split
    · exact hc
    · rename_i i hi
      have h9 := setFile_ok hc i ⟨(fileOf d i).b, (fileOf d i).b.length⟩ ⟨(fileOf_ok h i).1, Nat.le_refl _⟩
      rw [h1] at h9
      exact h9
theorem findI_same {d d' : Dk} (h : d'.names = d.names) (s : List UInt8) : findI d' s = findI d s := by unfold findI; rw [h]
set_option maxRecDepth 100000 in
set_option maxHeartbeats 1600000 in
theorem sync_any {B : Nat} {h : Hp} {d : Dk} {w : World} (H : DiskAt B h d w) (hok : DkOk d) (hcl : d.calls ≤ 1000000000) (s : List UInt8) (hs : s.length ≤ 9223372036854775807) :
    Calls Try.prog 51 #[.pointer (some ⟨h.g, 0, none⟩), .string (tx s)] w fun e w' => ∃ h', e = .returned (.int .i64 ((syncD d s).2 : Int)) ∧ DiskAt B h' (syncD d s).1 w' ∧ DkTo h w h' w' := by
  have hb : Rd (w.alloc (.cells #[.string (tx s)] 9)) (w.alloc (.cells #[.string (tx s)] 9)).heap.size 1 (some ⟨w.heap.size, 0, none⟩) 1 (svs [s]) := Rd.box w (.string (tx s)) 9
  have H0 := H.up ((Up.refl w).alloc (.cells #[.string (tx s)] 9))
  have D0 : DkTo h w h (w.alloc (.cells #[.string (tx s)] 9)) := DkTo.up ((Up.refl w).alloc (.cells #[.string (tx s)] 9))
  have hcr : syncD d s = syncD d s := rfl
  conv at hcr => rhs; unfold syncD
  have HCR := Lib.hid hcr
  have hok1 := callN_ok (L := [s]) hok
  have hsame := callN_same [s] d
  have HSM := Lib.hid hsame
  clear hcr hsame
  go_enter Try.func51, Try.ntmps51
  go_wp2_with fail
  refine (call_any H0 hok hcl [s] (some ⟨w.heap.size, 0, none⟩) 1 1 hb (fun x hx => by rw [List.mem_singleton] at hx; subst hx; exact hs) (by omega)).mono ?_
  rintro e w1 ⟨rfl, H1, D1⟩
  have D01 := D0.trans D1
  clear H0 D0 D1 hb
  generalize callN [s] d = r at *
  obtain ⟨d1, ec⟩ := r
  (try dsimp only at *)
  by_cases he : ec ≠ 0
  · have heb : ((ec : Int) != 0) = true := by rw [bne_iff_ne]; omega
    have hcr2 := HCR.out
    rw [if_pos he] at hcr2
    have HC2 := Lib.hid hcr2
    clear hcr2 he
    go_wp2_with fail
    go_ret
    rw [HC2.out]
    exact ⟨h, rfl, H1, D01⟩
  · have heb : ((ec : Int) != 0) = false := by rw [bne_eq_false_iff_eq]; omega
    have hcr2 := HCR.out
    rw [if_neg he] at hcr2
    obtain ⟨e1, e2, e3, e4, e5, e6, e7, e8⟩ := HSM.out
    rw [← findI_same e2] at hcr2
    have HC2 := Lib.hid hcr2
    clear hcr2 he HCR e2 e3 e4 e5
    have HE1 := Lib.hid e1
    clear e1
    go_wp2_with fail
    refine (find_any H1 hok1 s hs).mono ?_
    rintro e w2 ⟨rfl, hfi⟩
    rcases hfi with ⟨hfi, rfl⟩ | ⟨i, f, x, hfi, hf, hx, rfl⟩
    · have hcr3 := HC2.out
      rw [hfi] at hcr3
      have HC3 := Lib.hid hcr3
      clear hcr3 hfi HC2
      go_wp2_with fail
      go_ret
      rw [HC3.out]
      exact ⟨h, rfl, H1, D01⟩
    · have hcr3 := HC2.out
      rw [hfi] at hcr3
      (try dsimp only at hcr3)
      have hF := H1.each i f x hf hx
      have c0 : w1.cell? ⟨f.g, 0, none⟩ = some (.slice f.A x.b.length f.c) := blk_cell hF.blk 0
      have c1 : w1.cell? ⟨f.g, 1, none⟩ = some (.int .i64 (x.last : Int)) := blk_cell hF.blk 1
      have z1 := blk_free hF.blk 1
      have hxe : fileOf d i = x := fileOf_eq (by rw [← HE1.out]; exact hx)
      rw [hxe] at hcr3
      have HC3 := Lib.hid hcr3
      have hset := setc_heap w1 f.g 1 (.int .i64 (x.b.length : Int)) _ _ hF.blk
      have hK : Rg.Keeps (fun k => k = f.g) w1 (w1.setCell ⟨f.g, 1, none⟩ (.int .i64 (x.b.length : Int))) := setc_keeps _ _ _ _ _ (Rg.Keeps.refl _ _)
      have hown := own_keepsX hF.own hK (fun k hk e => by
        have h1 := kd_row hF.own hk
        rw [e, kd_cells hF.blk] at h1
        exact absurd h1 (by decide))
      obtain ⟨H3, D3⟩ := H1.setFile (x' := ⟨x.b, x.b.length⟩) hf hx hset hown (Keeps.weak hK (fun k hk => .inl hk)) (fun k hk => .inl hk)
      have D4 := D01.trans D3
      have HH3 := Lib.hid H3
      clear hcr3 hfi hf hx HC2 hset hK hown H3 D3 hxe
      go_wp2_with fail
      go_ret
      have H3 := HH3.out
      rw [HC3.out]
      rw [HE1.out] at H3
      exact ⟨_, rfl, H3, D4⟩
set_option maxRecDepth 100000 in
set_option maxHeartbeats 1600000 in
theorem dread_any {B : Nat} {h : Hp} {d : Dk} {w : World} (H : DiskAt B h d w) (hok : DkOk d) (s : List UInt8) (hs : s.length ≤ 9223372036854775807) :
    Calls Try.prog 24 #[.pointer (some ⟨h.g, 0, none⟩), .string (tx s)] w fun e w' => ∃ R n c, e = .returned (.tuple #[.slice R n c, .int .i64 ((readD d s).2 : Int)]) ∧ OwnB w' w.heap.size R n c (readD d s).1 ∧ Up w w' := by
  have hr0 : readD d s = readD d s := rfl
  conv at hr0 => rhs; unfold readD
  have HR := Lib.hid hr0
  clear hr0
  go_enter Try.func24, Try.ntmps24
  go_wp2_with fail
  refine (named_any s w hs).mono ?_
  rintro e w1 ⟨rfl, rfl⟩
  cases hnb : nameB s with
  | false =>
    have hr1 := HR.out
    rw [if_pos hnb] at hr1
    have HR1 := Lib.hid hr1
    clear hr1 hnb HR
    go_wp2_with fail
    go_ret2
    rw [HR1.out]
    exact ⟨none, 0, 0, rfl, World.ownsRow_nil _ _ _ _, Up.refl _⟩
  | true =>
    have hr1 := HR.out
    rw [if_neg (by rw [hnb]; decide)] at hr1
    have HR1 := Lib.hid hr1
    clear hr1 hnb HR
    go_wp2_with fail
    refine (dead_any H).mono ?_
    rintro e w2 ⟨rfl, rfl⟩
    cases hd : d.dead with
    | true =>
      have hr2 := HR1.out
      rw [if_pos hd] at hr2
      have HR2 := Lib.hid hr2
      clear hr2 hd HR1
      go_wp2_with fail
      go_ret2
      rw [HR2.out]
      exact ⟨none, 0, 0, rfl, World.ownsRow_nil _ _ _ _, Up.refl _⟩
    | false =>
      have hr2 := HR1.out
      rw [if_neg (by rw [hd]; decide)] at hr2
      have HR2 := Lib.hid hr2
      clear hr2 hd HR1
      go_wp2_with fail
      refine (find_any H hok s hs).mono ?_
      rintro e w3 ⟨rfl, hfi⟩
      rcases hfi with ⟨hfi, rfl⟩ | ⟨i, f, x, hfi, hf, hx, rfl⟩
      · have hr3 := HR2.out
        rw [hfi] at hr3
        (try dsimp only at hr3)
        have HR3 := Lib.hid hr3
        clear hr3 hfi HR2
        go_wp2_with fail
        go_ret2
        rw [HR3.out]
        exact ⟨none, 0, 0, rfl, World.ownsRow_nil _ _ _ _, Up.refl _⟩
      · have hr3 := HR2.out
        rw [hfi] at hr3
        (try dsimp only at hr3)
        rw [fileOf_eq hx] at hr3
        have HR3 := Lib.hid hr3
        have hF := H.each i f x hf hx
        have hxl := (hok.fb x (List.mem_of_getElem? hx)).1
        have HFI := Lib.hid hfi
        have HFF := Lib.hid hf
        have HX := Lib.hid hx
        clear hr3 hfi HR2 hf hx
        go_wp2_with fail
        refine (find_any H hok s hs).mono ?_
        rintro e w4 ⟨rfl, hfi⟩
        rcases hfi with ⟨hfi, rfl⟩ | ⟨i2, f2, x2, hfi, hf2, hx2, rfl⟩
        · rw [HFI.out] at hfi; cases hfi
        · rw [HFI.out] at hfi
          injection hfi with hfi
          subst hfi
          rw [HFF.out] at hf2
          injection hf2 with hf2
          subst hf2
          have c0 : w2.cell? ⟨f.g, 0, none⟩ = some (.slice f.A x.b.length f.c) := blk_cell hF.blk 0
          have hnil := World.ownsRow_nil w2 w2.heap.size 5 1
          clear hx2
          go_wp2_with (at_builtin; refine wpList_append_rd _ bytesT (news := bvs x.b) hnil hF.own.rd (bvs_one _) (by omega) (by omega) (Nat.le_refl _) rfl rfl rfl rfl ?_; intro v3 w6 ho6 hg6 hat6; obtain ⟨F2, fc2, rfl⟩ := own_form ho6)
          go_ret2
          rw [HR3.out]
          refine ⟨_, _, _, rfl, ?_, ?_⟩
          · unfold OwnB; simpa using ho6
          · exact ⟨hg6.os, hg6.tape, hg6.output, hg6.size, fun k hk => hg6.block k hk (by simp [Value.ownBlock])⟩
set_option maxRecDepth 100000 in
set_option maxHeartbeats 1600000 in
theorem dappend0_any {B : Nat} {h : Hp} {d : Dk} {w : World} (H : DiskAt B h d w) (hok : DkOk d) (hcl : d.calls ≤ 1000000000) (s : List UInt8) (hs : s.length ≤ 9223372036854775807) (A : Option Addr) (n c : Nat) (bs : List UInt8) (hr : Rd w w.heap.size 1 A n (bvs bs)) (hn : n ≤ 1099511627776) (hnf : 0 < n → ∀ k, inA A k → ¬ foot h k) :
    Calls Try.prog 21 #[.pointer (some ⟨h.g, 0, none⟩), .string (tx s), .slice A n c] w fun e w' => ∃ h', e = .returned (.int .i64 ((appendD d s bs).2 : Int)) ∧ DiskAt B h' (appendD d s bs).1 w' ∧ DkTo h w h' w' := by
  have hb : Rd (w.alloc (.cells #[.string (tx s)] 9)) (w.alloc (.cells #[.string (tx s)] 9)).heap.size 1 (some ⟨w.heap.size, 0, none⟩) 1 (svs [s]) := Rd.box w (.string (tx s)) 9
  have H0 := H.up ((Up.refl w).alloc (.cells #[.string (tx s)] 9))
  have D0 : DkTo h w h (w.alloc (.cells #[.string (tx s)] 9)) := DkTo.up ((Up.refl w).alloc (.cells #[.string (tx s)] 9))
  have hcr : appendD d s bs = appendD d s bs := rfl
  conv at hcr => rhs; unfold appendD
  have HCR := Lib.hid hcr
  have hok1 := callN_ok (L := [s]) hok
  have hsame := callN_same [s] d
  have HSM := Lib.hid hsame
  have hnl : bs.length = n := hr.blen.symm
  have HNL := Lib.hid hnl
  clear hcr hsame hnl
  go_enter Try.func21, Try.ntmps21
  go_wp2_with fail
  refine (call_any H0 hok hcl [s] (some ⟨w.heap.size, 0, none⟩) 1 1 hb (fun x hx => by rw [List.mem_singleton] at hx; subst hx; exact hs) (by omega)).mono ?_
  rintro e w1 ⟨rfl, H1, D1⟩
  have D01 := D0.trans D1
  have hr1 := hr.keepsX0 (Nat.le_refl _) (fun h0 a ha => hnf h0 a.block ⟨a, ha, rfl⟩) D01.kept
  clear H0 D0 D1 hb hr
  generalize callN [s] d = r at *
  obtain ⟨d1, ec⟩ := r
  (try dsimp only at *)
  by_cases he : ec ≠ 0
  · have heb : ((ec : Int) != 0) = true := by rw [bne_iff_ne]; omega
    have hcr2 := HCR.out
    rw [if_pos he] at hcr2
    have HC2 := Lib.hid hcr2
    clear hcr2 he
    go_wp2_with fail
    go_ret
    rw [HC2.out]
    exact ⟨h, rfl, H1, D01⟩
  · have heb : ((ec : Int) != 0) = false := by rw [bne_eq_false_iff_eq]; omega
    have hcr2 := HCR.out
    rw [if_neg he] at hcr2
    obtain ⟨e1, e2, e3, e4, e5, e6, e7, e8⟩ := HSM.out
    have hud : usedD d = usedD d1 := by unfold usedD; rw [e1, e2]
    rw [← findI_same e2, hud, ← e5] at hcr2
    have HC2 := Lib.hid hcr2
    clear hcr2 he HCR e2 e3 e4 e5 hud
    have HE1 := Lib.hid e1
    clear e1
    go_wp2_with fail
    refine (find_any H1 hok1 s hs).mono ?_
    rintro e w2 ⟨rfl, hfi⟩
    rcases hfi with ⟨hfi, rfl⟩ | ⟨i, f, x, hfi, hf, hx, rfl⟩
    · have hcr3 := HC2.out
      rw [hfi] at hcr3
      (try dsimp only at hcr3)
      have HC3 := Lib.hid hcr3
      clear hcr3 hfi HC2
      go_wp2_with fail
      go_ret
      rw [HC3.out]
      exact ⟨h, rfl, H1, D01⟩
    · have hcr3 := HC2.out
      rw [hfi] at hcr3
      (try dsimp only at hcr3)
      have hF := H1.each i f x hf hx
      have c0 : w1.cell? ⟨f.g, 0, none⟩ = some (.slice f.A x.b.length f.c) := blk_cell hF.blk 0
      have hxl := (hok1.fb x (List.mem_of_getElem? hx)).1
      have hxe : fileOf d i = x := fileOf_eq (by rw [← HE1.out]; exact hx)
      rw [hxe, HNL.out] at hcr3
      have HFF := Lib.hid hf
      have HX := Lib.hid hx
      by_cases hlong : 250000 < n ∨ 250000 < x.b.length + n
      · rw [if_pos hlong] at hcr3
        have HC3 := Lib.hid hcr3
        clear hcr3 hfi HC2 hf hx hxe
        by_cases hl1 : 250000 < n
        · have l1 : (250000 : Int) < (n : Int) := by omega
          go_wp2_with fail
          go_ret
          rw [HC3.out]
          exact ⟨h, rfl, H1, D01⟩
        · have l1 : ¬ (250000 : Int) < (n : Int) := by omega
          have l2 : (250000 : Int) - (n : Int) < (x.b.length : Int) := by omega
          go_wp2_with fail
          go_ret
          rw [HC3.out]
          exact ⟨h, rfl, H1, D01⟩
      · rw [if_neg hlong] at hcr3
        have hn2 : n ≤ 250000 := by omega
        have l1 : ¬ (250000 : Int) < (n : Int) := by omega
        have l2 : ¬ (250000 : Int) - (n : Int) < (x.b.length : Int) := by omega
        have HC3 := Lib.hid hcr3
        clear hcr3 hfi HC2 hf hx hxe hlong
        go_upto_region 9 with fail
        have hq := hok1.q
        have hS : ∀ W, Up w1 W → Up w1 W ∧ W.cell? ⟨h.g, 0, none⟩ = some (.int .i64 (d1.quota : Int)) := fun W hW => ⟨hW, blk_cell (H1.up hW).hd 0⟩
        have hus := fun W (hW : Up w1 W) => used_any (H1.up hW) hok1
        have hul : usedD d1 ≤ 250000000000 := by
          obtain ⟨es, hes, -, -⟩ := H1.names.entries strKey
          unfold usedD
          rw [hes]
          have h9 := usedS_le d1.files (fun _ => false) (fun f hf => (hok1.fb f hf).1) es
          have h8 := hok1.sn
          rw [hes, Maps.size_eq] at h8
          show usedS _ _ _ ≤ _
          omega
        have v1 : IntKind.i64.wrap ((d1.quota : Int) - (n : Int)) = (d1.quota : Int) - (n : Int) := IntWalk.i64_in _ (by omega)
        apply Rg.region_up _ (by kernel_rfl) (by kernel_rfl) hS
        · intro QN hQN
          (apply Rg.RK.ok; (· intro vs w1 hS; go_simp; with_reducible rfl); (· rfl); simp only [Act.put, List.setIfInBounds_toArray, List.set_cons_zero, List.set_cons_succ, Nat.reduceAdd])
          apply Rg.RK.call (.int .i64 (usedD d1 : Int)) []
          · rfl
          · intro vs w1 hK hS _ K hKK
            go_simp
            refine (hus _ hS.1).mono ?_
            rintro e w2 ⟨rfl, hu2⟩
            exact hKK.out _ hu2
          simp only [Act.put, List.setIfInBounds_toArray, List.set_cons_zero, List.set_cons_succ, Nat.reduceAdd]
          iterate 9 (apply Rg.RK.ok; (· intro vs w1 hS; go_simp; with_reducible rfl); (· rfl); simp only [Act.put, List.setIfInBounds_toArray, List.set_cons_zero, List.set_cons_succ, Nat.reduceAdd])
          apply Rg.RK.fin []
          intro vs w2 hK hS9 hf
          refine hQN.out _ _ ?_
          clear hQN
          have hu2 := keeps_up hK
          have H2 := H1.up hu2
          have D2 := D01.trans (DkTo.up (h := h) hu2)
          have hr2 := hr1.up hu2
          clear hK hS9 hf hus hS c0 H1 D01 hr1 hF
          by_cases hfull : d1.quota < usedD d1 + n
          · have l3 : (d1.quota : Int) - (n : Int) < (usedD d1 : Int) := by omega
            have hcr4 := HC3.out
            rw [if_pos hfull] at hcr4
            have HC4 := Lib.hid hcr4
            clear hcr4 HC3 hfull
            go_wp2_with fail
            go_ret
            rw [HC4.out]
            exact ⟨h, rfl, H2, D2⟩
          · have l3 : ¬ (d1.quota : Int) - (n : Int) < (usedD d1 : Int) := by omega
            have hcr4 := HC3.out
            rw [if_neg hfull] at hcr4
            have HC4 := Lib.hid hcr4
            have hF := H2.each i f x HFF.out HX.out
            have c0 : w2.cell? ⟨f.g, 0, none⟩ = some (.slice f.A x.b.length f.c) := blk_cell hF.blk 0
            have hbB : B ≤ w2.heap.size := by have := H2.lt (.inl rfl); omega
            have hfo : w2.ownsRow B 5 1 (.slice f.A x.b.length f.c) x.b.length (bvs x.b) := hF.own
            clear hcr4 HC3 hfull
            go_wp2_with (at_builtin; refine wpList_append_rd _ bytesT (news := bvs bs) hfo hr2 (bvs_one _) (by omega) (by omega) hbB rfl rfl rfl rfl ?_; intro v3 w6 ho6 hg6 hat6; obtain ⟨F2, fc2, rfl⟩ := own_form ho6; have y0 : w6.cell? ⟨f.g, 0, none⟩ = some (.slice f.A x.b.length f.c) := blk_cell (((keepsRow hfo hg6).block f.g (Array.getElem?_eq_some_iff.1 hF.blk).1 (fun hk => by have h1 := kd_row hfo hk; rw [kd_cells hF.blk] at h1; exact absurd h1 (by decide))).trans hF.blk) 0; have z0 := blk_free (((keepsRow hfo hg6).block f.g (Array.getElem?_eq_some_iff.1 hF.blk).1 (fun hk => by have h1 := kd_row hfo hk; rw [kd_cells hF.blk] at h1; exact absurd h1 (by decide))).trans hF.blk) 0)
            go_ret
            have hkr := keepsRow hfo hg6
            have hb6 : w6.heap[f.g]? = some (.cells #[.slice f.A x.b.length f.c, .int .i64 (x.last : Int)] 93 (0, 0)) := (hkr.block f.g (Array.getElem?_eq_some_iff.1 hF.blk).1 (fun hk => by
              have h1 := kd_row hfo hk
              rw [kd_cells hF.blk] at h1
              exact absurd h1 (by decide))).trans hF.blk
            have hset := setc_heap w6 f.g 0 (.slice F2 (x.b.length + n) fc2) _ _ hb6
            have hown := own_keepsX ho6 (setc_keeps w6 w6 f.g 0 (.slice F2 (x.b.length + n) fc2) (Rg.Keeps.refl _ _)) (fun k hk e => by
              have h1 := kd_row ho6 hk
              rw [e, kd_cells hb6] at h1
              exact absurd h1 (by decide))
            have hlen : (x.b ++ bs).length = x.b.length + n := by rw [List.length_append, HNL.out]
            obtain ⟨H3, D3⟩ := H2.setFile (x' := ⟨x.b ++ bs, x.last⟩) (A' := F2) (c' := fc2) HFF.out HX.out (by rw [hset, hlen]; rfl) (by unfold OwnB; rw [hlen, bvs_append]; exact hown) (setc_or hkr f.g 0 _) (fun k hk => at_inA hat6 k hk)
            have D4 := D2.trans D3
            rw [HC4.out]
            rw [HE1.out] at H3
            first | exact ⟨_, rfl, H3, D4⟩ | exact ⟨rfl, _, H3, D4⟩
        · kernel_rfl
theorem dappend_any {B : Nat} {h : Hp} {d : Dk} {w : World} (H : DiskAt B h d w) (hok : DkOk d) (hcl : d.calls ≤ 1000000000) (s : List UInt8) (hs : s.length ≤ 9223372036854775807) (A : Option Addr) (n c : Nat) (bs : List UInt8) (hr : Rd w w.heap.size 1 A n (bvs bs)) (hn : n ≤ 1099511627776) (hnf : ∀ k, inA A k → ¬ foot h k) :
    Calls Try.prog 21 #[.pointer (some ⟨h.g, 0, none⟩), .string (tx s), .slice A n c] w fun e w' => ∃ h', e = .returned (.int .i64 ((appendD d s bs).2 : Int)) ∧ DiskAt B h' (appendD d s bs).1 w' ∧ DkTo h w h' w' := dappend0_any H hok hcl s hs A n c bs hr hn (fun _ => hnf)
end Go.Proofs.Ytnjmekjaingniaa

/-
  The walks of the disk's New, of maps.Clone, of a turn's do, of SyncDir.
-/
namespace Go.Proofs.Ytnjmekjaingniaa
open Go.RowKit Go.Maps
set_option linter.unusedVariables false
set_option linter.unusedSimpArgs false

def newD (q : Int) : Dk := ⟨q.toNat, [], .map [], .map [], [], 0, false, 0, 0⟩
theorem newD_ok {q : Int} (h : q ≤ 9223372036854775807) : DkOk (newD q) :=
  ⟨⟨Maps.tidy_empty, fun kl hk => by simp [newD, Maps.has] at hk⟩, ⟨Maps.tidy_empty, fun kl hk => by simp [newD, Maps.has] at hk⟩, fun t ht => (by cases ht), by simp [newD], by simp [newD], by simp [newD, Maps.size], by simp [newD, Maps.size], fun f hf => (by cases hf), by simp [newD], by simp [newD], by simp [newD]; omega⟩
/-- the head and where the maps lie have turned -/
theorem DiskAt.relink {B : Nat} {h : Hp} {d : Dk} {w w' : World} (H : DiskAt B h d w) {nb' lb' n1 n2 : Nat} {D1 D2 : Mp} (d' : Dk) (hd : w'.heap[h.g]? = some (.cells (dcs d' { h with nb := nb', lb := lb' }) 86 (0, 0))) (hK : Rg.Keeps (fun k => k = h.g) w w')
    (e1 : d'.files = d.files) (e2 : d'.names = D1) (e3 : d'.lasted = D2) (e4 : d'.turns = d.turns)
    (m1 : w'.ownsMap Try.prog 9 (plainElem Try.prog 3) nb' n1 D1) (m2 : w'.ownsMap Try.prog 9 (plainElem Try.prog 3) lb' n2 D2) (hne : nb' ≠ lb') (hb1 : B ≤ nb') (hb2 : B ≤ lb') {m0 : Nat} (hf1 : foot h nb' ∨ m0 ≤ nb') (hf2 : foot h lb' ∨ m0 ≤ lb') :
    DiskAt B { h with nb := nb', lb := lb' } d' w' ∧ Rg.Keeps (foot h) w w' ∧ ∀ k, foot { h with nb := nb', lb := lb' } k → foot h k ∨ m0 ≤ k := by
  have hx : ∀ k, k = h.g → kd w k = some (some 86) := fun k hk => by subst hk; exact kd_cells H.hd
  have hf := H.fkeep hK (fun k hk => by rw [hx k hk]; exact ⟨by decide, by decide, by decide⟩)
  have ht := H.tkeep hK (fun k hk => by rw [hx k hk]; decide)
  refine ⟨⟨hd, H.base, by rw [e1]; exact hf.1, by rw [e1]; exact H.flen, by rw [e1]; exact hf.2, H.apart, by rw [e2]; exact map_tight m1, by rw [e3]; exact map_tight m2, hne, ⟨hb1, hb2⟩, by rw [e4]; exact ht⟩, Keeps.weak hK (fun k hk => .inl hk), fun k hk => ?_⟩
  rcases hk with hk | hk | hk | hk | hk | hk
  · exact .inl (.inl hk)
  · have hk' : k = nb' := hk
    subst hk'; exact hf1
  · have hk' : k = lb' := hk
    subst hk'; exact hf2
  · exact .inl (.inr (.inr (.inr (.inl hk))))
  · exact .inl (.inr (.inr (.inr (.inr (.inl hk)))))
  · exact .inl (.inr (.inr (.inr (.inr (.inr hk)))))
set_option maxRecDepth 100000 in
theorem dnew_any (q : Int) (w : World) : Calls Try.prog 19 #[.int .i64 q] w fun e w' => ∃ h, e = .returned (.pointer (some ⟨h.g, 0, none⟩)) ∧ DiskAt w.heap.size h (newD q) w' ∧ Up w w' ∧ ∀ k, foot h k → w.heap.size ≤ k := by
  obtain ⟨m, hm⟩ : ∃ m : Int, m = max q 0 := ⟨_, rfl⟩
  have hm2 : m = (q.toNat : Int) := by omega
  have core : ∃ h : Hp, h.g = w.heap.size + 1 + 1 ∧ DiskAt w.heap.size h (newD q) (((w.alloc (.map #[] 0)).alloc (.map #[] 0)).alloc (.cells #[.int .i64 m, .slice none 0 0, .map (some w.heap.size), .map (some (w.heap.size + 1)), .slice none 0 0, .int .i64 0, .bool false, .int .i64 0, .int .i64 0] 86)) ∧ Up w (((w.alloc (.map #[] 0)).alloc (.map #[] 0)).alloc (.cells #[.int .i64 m, .slice none 0 0, .map (some w.heap.size), .map (some (w.heap.size + 1)), .slice none 0 0, .int .i64 0, .bool false, .int .i64 0, .int .i64 0] 86)) ∧ ∀ k, foot h k → w.heap.size ≤ k := by
    refine ⟨⟨w.heap.size + 1 + 1, none, 0, [], w.heap.size, w.heap.size + 1, none, 0⟩, rfl, ⟨?_, by show _ ≤ w.heap.size + 1 + 1; omega, World.ownsRow_nil _ _ _ _, rfl, fun i f x hf => (by simp at hf), fun i j f f' _ hf => (by simp at hf), ?_, ?_, by show w.heap.size ≠ w.heap.size + 1; omega, ⟨Nat.le_refl _, Nat.le_succ _⟩, World.ownsRow_nil _ _ _ _⟩, (((Up.refl w).alloc _).alloc _).alloc _, fun k hk => ?_⟩
    · have h := heap_alloc_new ((w.alloc (.map #[] 0)).alloc (.map #[] 0)) (.cells #[.int .i64 m, .slice none 0 0, .map (some w.heap.size), .map (some (w.heap.size + 1)), .slice none 0 0, .int .i64 0, .bool false, .int .i64 0, .int .i64 0] 86)
      rw [World.size_alloc, World.size_alloc] at h
      rw [hm2] at h ⊢
      exact h
    · exact ((World.ownsMap_made w _ _ _).alloc _).alloc _
    · have h := (World.ownsMap_made (H := Unit) (w.alloc (.map #[] 0)) Try.prog 9 (plainElem Try.prog 3)).alloc (.cells #[.int .i64 m, .slice none 0 0, .map (some w.heap.size), .map (some (w.heap.size + 1)), .slice none 0 0, .int .i64 0, .bool false, .int .i64 0, .int .i64 0] 86)
      rw [World.size_alloc] at h
      exact h
    · rcases hk with rfl | rfl | rfl | ⟨a, ha, _⟩ | ⟨a, ha, _⟩ | ⟨f, hf, _⟩
      · show _ ≤ w.heap.size + 1 + 1; omega
      · exact Nat.le_refl _
      · exact Nat.le_succ _
      · cases ha
      · cases ha
      · cases hf
  have HC := Lib.hid core
  have HM := Lib.hid hm
  clear core hm hm2
  have hmm := @run_makeMap Try.prog
  by_cases hq : q < 0
  · have hm0 : m = 0 := by have := HM.out; omega
    subst hm0
    have hmx : max q 0 = 0 := by omega
    clear HM
    go_enter Try.func19, Try.ntmps19
    go_wp2_with fail
    go_ret
    obtain ⟨h, hg, H⟩ := HC.out
    exact ⟨h, by rw [hg]; rfl, H⟩
  · have hm0 : m = q := by have := HM.out; omega
    subst hm0
    have hq2 : 0 ≤ m := by omega
    have hmx : max m 0 = m := by omega
    clear HM
    go_enter Try.func19, Try.ntmps19
    go_wp2_with fail
    go_ret
    obtain ⟨h, hg, H⟩ := HC.out
    exact ⟨h, by rw [hg]; rfl, H⟩
set_option maxRecDepth 100000 in
theorem mclone_any (b n : Nat) (D : Mp) (w : World) (hown : w.ownsMap Try.prog 9 (plainElem Try.prog 3) b n D) :
    Calls Try.prog 48 #[.map (some b)] w fun e w' => e = .returned (.map (some w.heap.size)) ∧ w'.ownsMap Try.prog 9 (plainElem Try.prog 3) w.heap.size n D ∧ Up w w' := by
  have hlt := hown.lt
  obtain ⟨es, clock, hb, FF, hs, hD⟩ := hown
  have hq := fun w => run_eql_map_nil_sl (P := Try.prog) w 77 _ _ (some b) Try.underlying77
  have fin : w.alloc (.map es clock) = w.alloc (.map es clock) ∧ (w.alloc (.map es clock)).ownsMap Try.prog 9 (plainElem Try.prog 3) w.heap.size n D ∧ Up w (w.alloc (.map es clock)) :=
    ⟨rfl, ⟨es, clock, (MapKept.heap_alloc w _).1, FF, hs, hD⟩, (Up.refl w).alloc _⟩
  have HF := Lib.hid fin
  clear fin FF hs hD
  go_enter Try.func48, Try.ntmps48
  go_wp2
  rw [run_callFunc_extern Try.func72 (by kernel_rfl) (by kernel_rfl) (by kernel_rfl) (e := Extern.MapsClone.clone) (by kernel_rfl), run_maps_clone_sl w 77 hb]
  simp only [Result.andThen]
  rw [Oper.upon_value]
  go_wp2
  rw [run_typeAssert_map_sl _ 77 20 _ _ _ Try.underlying77]
  simp only [Result.andThen]
  rw [Oper.upon_value]
  go_wp2
  go_ret
  exact ⟨rfl, HF.out.2⟩

/-- a turn, done to names -/
def doM (t : Tn) (D : Mp) : Mp :=
  if t.kind = 1 then D.put (nk t.a) (fiv t.file)
  else if t.kind = 2 then (if Maps.has D (nk t.a) = true then (D.put (nk t.b) (fiv (mget D t.a))).del (nk t.a) else D)
  else if t.kind = 3 then D.del (nk t.a) else D
theorem mget_lt {D : Mp} {n : Nat} (h : MOk D n) {s : List UInt8} (hh : Maps.has D (nk s) = true) : mget D s < n := by
  obtain ⟨i, hi, hat⟩ := h.2 _ hh
  rw [mget_of hat]; exact hi
theorem doM_ok {D : Mp} {n : Nat} (h : MOk D n) (t : Tn) (ht : t.kind = 1 → t.file < n) : MOk (doM t D) n := by
  unfold doM
  split
  · rename_i h1; exact h.put (ht h1) _
  · split
    · split
      · rename_i hh; exact (h.put (mget_lt h hh) _).del _
      · exact h
    · split
      · exact h.del _
      · exact h
theorem doM_size {D : Mp} {n : Nat} (h : MOk D n) (t : Tn) : Maps.size (doM t D) ≤ Maps.size D + 1 := by
  have hput : ∀ s i, Maps.size (D.put (nk s) (fiv i)) ≤ Maps.size D + 1 := fun s i => by
    rw [Maps.size_put h.1]; split <;> omega
  unfold doM
  split
  · exact hput _ _
  · split
    · split
      · rename_i hh
        have h1 := Maps.size_del (k := nk t.a) (h.put (mget_lt h hh) t.b).1
        have h2 := hput t.b (mget D t.a)
        split at h1 <;> omega
      · omega
    · split
      · have h1 := Maps.size_del (k := nk t.a) h.1
        split at h1 <;> omega
      · omega
set_option maxRecDepth 100000 in
set_option maxHeartbeats 1600000 in
theorem do_any (t : Tn) (b n m : Nat) (D : Mp) (w : World) (hown : w.ownsMap Try.prog 9 (plainElem Try.prog 3) b n D) (hn : n ≤ 4611686018427387903) (hM : MOk D m) (hm : m ≤ 1000000) (htf : t.kind = 1 → t.file ≤ 1000000) (ha : t.a.length ≤ 9223372036854775807) (hb : t.b.length ≤ 9223372036854775807) :
    Calls Try.prog 54 #[.agg #[.int .i64 (t.kind : Int), .int .i64 (t.file : Int), .string (tx t.a), .string (tx t.b)], .map (some b)] w
      fun e w' => e = .returned (.tuple #[]) ∧ (∃ n', w'.ownsMap Try.prog 9 (plainElem Try.prog 3) b n' (doM t D)) ∧ Rg.Keeps (fun k => k = b) w w' := by
  obtain ⟨kind, file, ta, tb⟩ := t
  (try dsimp only at *)
  have hka := key_str ta ha
  have hkb := key_str tb hb
  have HKA := Lib.hid hka
  have HKB := Lib.hid hkb
  have hup : Up w (w.alloc (.cells #[.int .i64 (kind : Int), .int .i64 (file : Int), .string (tx ta), .string (tx tb)] 91)) := (Up.refl w).alloc _
  have hblk := heap_alloc_new w (.cells #[.int .i64 (kind : Int), .int .i64 (file : Int), .string (tx ta), .string (tx tb)] 91)
  have c0 := blk_cell hblk 0
  have c1 := blk_cell hblk 1
  have c2 := blk_cell hblk 2
  have c3 := blk_cell hblk 3
  have hown1 := hown.alloc (.cells #[.int .i64 (kind : Int), .int .i64 (file : Int), .string (tx ta), .string (tx tb)] 91)
  have hbl := hown.lt
  clear hka hkb
  by_cases k1 : kind = 1
  · have b1 : ((kind : Int) == 1) = true := by rw [beq_iff_eq]; omega
    have hfl := htf k1
    have hd : doM ⟨kind, file, ta, tb⟩ D = D.put (nk ta) (fiv file) := by unfold doM; rw [if_pos k1]
    have HD := Lib.hid hd
    clear hd k1 htf
    go_enter Try.func54, Try.ntmps54
    go_wp2_with (at_mapUpdate; refine wpList_mapUpdate_in _ rfl _ _ _ 77 rfl 9 3 strKey Try.underlying77 (plainElem Try.prog 3) b n D rfl hown1 (by unfold maxLen; omega) _ _ (nk ta) rfl rfl HKA.out _ [] (plainElem_int Try.underlying3 (WalkArith.wf_i64 (by omega))) ?_; intro w3 hm3 hturn3)
    refine bodyPost_end (results_none rfl _ _ _) rfl ⟨rfl, by rw [HD.out]; exact ⟨_, hm3⟩, Keeps.trans2 (Rg.Keeps.of_up hup) (keepsMap hturn3.grown)⟩
  · have b1 : ((kind : Int) == 1) = false := by rw [beq_eq_false_iff_ne]; omega
    by_cases k2 : kind = 2
    · have b2 : ((kind : Int) == 2) = true := by rw [beq_iff_eq]; omega
      cases hh : Maps.has D (nk ta) with
      | false =>
        have hd : doM ⟨kind, file, ta, tb⟩ D = D := by unfold doM; rw [if_neg k1, if_pos k2, hh]; rfl
        have HD := Lib.hid hd
        have HH := Lib.hid hh
        clear hd k1 k2 htf hh
        go_enter Try.func54, Try.ntmps54
        go_wp2_with (at_lookup; refine wpList_lookup_own_ok_int _ rfl _ _ 77 rfl 9 3 .i64 strKey Try.underlying77 Try.underlying3 (zeroInt _) b _ D rfl hown1 _ _ rfl HKA.out ?_; intro c hat hwc; rw [HH.out])
        refine bodyPost_end (results_none rfl _ _ _) rfl ⟨rfl, by rw [HD.out]; exact ⟨_, hown1⟩, Rg.Keeps.of_up hup⟩
      | true =>
        obtain ⟨i, hi, hat0⟩ := hM.2 _ hh
        have hd : doM ⟨kind, file, ta, tb⟩ D = (D.put (nk tb) (fiv i)).del (nk ta) := by unfold doM; rw [if_neg k1, if_pos k2, if_pos hh, mget_of hat0]
        have HD := Lib.hid hd
        have HH := Lib.hid hh
        have HA := Lib.hid hat0
        clear hd k1 k2 htf hh hat0
        go_enter Try.func54, Try.ntmps54
        go_wp2_with (first
          | (at_lookup; refine wpList_lookup_own_ok_int _ rfl _ _ 77 rfl 9 3 .i64 strKey Try.underlying77 Try.underlying3 (zeroInt _) b _ D rfl hown1 _ _ rfl HKA.out ?_; intro c hat hwc; rw [HH.out]; have hci : c = (i : Int) := (by have h9 := HA.out (.lit (.int .i64 0)); rw [hat] at h9; unfold fiv at h9; injection h9 with h9; injection h9); rw [hci]; clear hci hat hwc)
          | (at_mapUpdate; refine wpList_mapUpdate_in _ rfl _ _ _ 77 rfl 9 3 strKey Try.underlying77 (plainElem Try.prog 3) b n D rfl hown1 (by unfold maxLen; omega) _ _ (nk tb) rfl rfl HKB.out _ [] (plainElem_int Try.underlying3 (WalkArith.wf_i64 (by omega))) ?_; intro w3 hm3 hturn3; have c2b := ((World.cell?_of_block (a := ⟨w.heap.size, 2, none⟩) (hturn3.grown.block w.heap.size (by rw [World.size_alloc]; omega) (by simp; omega))).trans c2))
          | (at_delete; refine wpList_delete_own _ rfl _ _ 77 9 rfl 3 strKey Try.underlying77 _ b _ _ rfl (by assumption) _ _ rfl HKA.out ?_; intro w4 hm4 hturn4))
        refine bodyPost_end (results_none rfl _ _ _) rfl ⟨rfl, by rw [HD.out]; exact ⟨_, hm4⟩, Keeps.trans2 (Rg.Keeps.of_up hup) (keepsMap (hturn3.trans hturn4).grown)⟩
    · have b2 : ((kind : Int) == 2) = false := by rw [beq_eq_false_iff_ne]; omega
      by_cases k3 : kind = 3
      · have b3 : ((kind : Int) == 3) = true := by rw [beq_iff_eq]; omega
        have hd : doM ⟨kind, file, ta, tb⟩ D = D.del (nk ta) := by unfold doM; rw [if_neg k1, if_neg k2, if_pos k3]
        have HD := Lib.hid hd
        clear hd k1 k2 k3 htf
        go_enter Try.func54, Try.ntmps54
        go_wp2_with (at_delete; refine wpList_delete_own _ rfl _ _ 77 9 rfl 3 strKey Try.underlying77 _ b _ _ rfl hown1 _ _ rfl HKA.out ?_; intro w4 hm4 hturn4)
        refine bodyPost_end (results_none rfl _ _ _) rfl ⟨rfl, by rw [HD.out]; exact ⟨_, hm4⟩, Keeps.trans2 (Rg.Keeps.of_up hup) (keepsMap hturn4.grown)⟩
      · have b3 : ((kind : Int) == 3) = false := by rw [beq_eq_false_iff_ne]; omega
        have hd : doM ⟨kind, file, ta, tb⟩ D = D := by unfold doM; rw [if_neg k1, if_neg k2, if_neg k3]
        have HD := Lib.hid hd
        clear hd k1 k2 k3 htf
        go_enter Try.func54, Try.ntmps54
        go_wp2_with fail
        refine bodyPost_end (results_none rfl _ _ _) rfl ⟨rfl, by rw [HD.out]; exact ⟨_, hown1⟩, Rg.Keeps.of_up hup⟩

def syncDirD (d : Dk) : Dk × Nat :=
  if (callD d).2 ≠ 0 then ((callD d).1, (callD d).2)
  else ({ (callD d).1 with lasted := d.names, turns := [] }, 0)
theorem callN_nil (d : Dk) : callN [] d = callD d := by unfold callN; simp
theorem syncDirD_ok {d : Dk} (h : DkOk d) : DkOk (syncDirD d).1 := by
  have hc := callN_ok (L := []) h
  obtain ⟨h1, h2, -⟩ := callN_same [] d
  rw [callN_nil] at hc h1 h2
  unfold syncDirD
  split
  · exact hc
  · exact ⟨hc.nm, by rw [← h2]; exact hc.nm, fun t ht => (by cases ht), hc.nf, Nat.zero_le _, hc.sn, by rw [← h2]; exact hc.sn, hc.fb, hc.s, hc.f, hc.q⟩
set_option maxRecDepth 100000 in
set_option maxHeartbeats 1600000 in
theorem syncDir_any {B : Nat} {h : Hp} {d : Dk} {w : World} (H : DiskAt B h d w) (hok : DkOk d) (hcl : d.calls ≤ 1000000000) :
    Calls Try.prog 25 #[.pointer (some ⟨h.g, 0, none⟩)] w fun e w' => ∃ h', e = .returned (.int .i64 ((syncDirD d).2 : Int)) ∧ DiskAt B h' (syncDirD d).1 w' ∧ DkTo h w h' w' := by
  have hcr : syncDirD d = syncDirD d := rfl
  conv at hcr => rhs; unfold syncDirD
  have HCR := Lib.hid hcr
  have hok1 := callN_ok (L := []) hok
  have hsame := callN_same [] d
  rw [callN_nil] at hsame hok1
  have HSM := Lib.hid hsame
  clear hcr hsame
  go_enter Try.func25, Try.ntmps25
  go_wp2_with fail
  refine (call_any H hok hcl [] none 0 0 Rd.empty (fun x hx => by cases hx) (by omega)).mono ?_
  rintro e w1 ⟨rfl, H1, D1⟩
  rw [callN_nil] at H1 ⊢
  generalize callD d = r at *
  obtain ⟨d1, ec⟩ := r
  (try dsimp only at *)
  by_cases he : ec ≠ 0
  · have heb : ((ec : Int) != 0) = true := by rw [bne_iff_ne]; omega
    have hcr2 := HCR.out
    rw [if_pos he] at hcr2
    have HC2 := Lib.hid hcr2
    clear hcr2 he
    go_wp2_with fail
    go_ret
    rw [HC2.out]
    exact ⟨h, rfl, H1, D1⟩
  · have heb : ((ec : Int) != 0) = false := by rw [bne_eq_false_iff_eq]; omega
    have hcr2 := HCR.out
    rw [if_neg he] at hcr2
    have HC2 := Lib.hid hcr2
    have c2 : w1.cell? ⟨h.g, 2, none⟩ = some (.map (some h.nb)) := blk_cell H1.hd 2
    clear hcr2 he HCR
    go_wp2_with fail
    clear c2
    refine (mclone_any h.nb _ d1.names w1 H1.names).mono ?_
    rintro e w2 ⟨rfl, hm2, hu2⟩
    have H2 := H1.up hu2
    have c3 : w2.cell? ⟨h.g, 3, none⟩ = some (.map (some h.lb)) := blk_cell H2.hd 3
    have z3 := blk_free H2.hd 3
    have hg3 := setc_heap w2 h.g 3 (.map (some w1.heap.size)) _ _ H2.hd
    have hK3 : Rg.Keeps (fun k => k = h.g) w2 (w2.setCell ⟨h.g, 3, none⟩ (.map (some w1.heap.size))) := setc_keeps _ _ _ _ _ (Rg.Keeps.refl _ _)
    have hnb := (H1.lt (k := h.nb) (.inr (.inl rfl)))
    have hgl := (H1.lt (k := h.g) (.inl rfl))
    obtain ⟨H3, K3, F3⟩ := H2.relink (nb' := h.nb) (lb' := w1.heap.size) (D1 := d1.names) (D2 := d1.names) { d1 with lasted := d1.names } hg3 hK3 rfl rfl rfl rfl (map_keepsX H2.names hK3 (fun e9 => by
      have h1 := kd_map H2.names
      rw [e9, kd_cells H2.hd] at h1
      cases h1)) (map_keepsX hm2 hK3 (fun e9 => by omega)) (by omega) hnb.1 (by omega) (m0 := w1.heap.size) (.inl (.inr (.inl rfl))) (.inr (Nat.le_refl _))
    have D3 : DkTo h w1 { h with nb := h.nb, lb := w1.heap.size } (w2.setCell ⟨h.g, 3, none⟩ (.map (some w1.heap.size))) := ⟨rfl, Keeps.trans2 (Rg.Keeps.of_up hu2) K3, F3⟩
    obtain ⟨H4, D4⟩ := H3.setTurns (ta' := none) (tc' := 0) [] (World.ownsRow_nil _ _ _ _) (Rg.Keeps.refl _ _) (fun k hk => by obtain ⟨a, ha, _⟩ := hk; cases ha)
    have D5 := D1.trans (D3.trans D4)
    have y4 : (w2.setCell ⟨h.g, 3, none⟩ (.map (some w1.heap.size))).cell? ⟨h.g, 4, none⟩ = some (.slice h.ta d1.turns.length h.tc) := blk_cell H3.hd 4
    have z4 := blk_free H3.hd 4
    have HH4 := Lib.hid H4
    have HD5 := Lib.hid D5
    clear hg3 hK3 H3 K3 F3 D3 H4 D4 D5 hm2 hu2 H2
    go_wp2_with fail
    go_ret
    obtain ⟨e1, e2, -⟩ := HSM.out
    rw [HC2.out, ← e2]
    have H4 := HH4.out
    first | exact ⟨_, rfl, H4, HD5.out⟩ | exact ⟨rfl, _, H4, HD5.out⟩
end Go.Proofs.Ytnjmekjaingniaa

/-
  The walks of log.New, of a Log's Put, Count, Size; of law14's awake.
-/
namespace Go.Proofs.Ytnjmekjaingniaa
open Go.RowKit Go.Maps
set_option linter.unusedVariables false
set_option linter.unusedSimpArgs false

/-- a Log in its block: its disk's place, its name, its size, its batches, whether it is torn -/
def LogAt (gl gd : Nat) (nm : List UInt8) (sz ct : Nat) (torn : Bool) (w : World) : Prop := w.heap[gl]? = some (.cells #[.pointer (some ⟨gd, 0, none⟩), .string (tx nm), .int .i64 (sz : Int), .int .i64 (ct : Int), .bool torn] 95 (0, 0))
theorem LogAt.lt {gl gd : Nat} {nm : List UInt8} {sz ct : Nat} {torn : Bool} {w : World} (h : LogAt gl gd nm sz ct torn w) : gl < w.heap.size := (Array.getElem?_eq_some_iff.1 h).1
theorem LogAt.up {gl gd : Nat} {nm : List UInt8} {sz ct : Nat} {torn : Bool} {w w' : World} (h : LogAt gl gd nm sz ct torn w) (hu : Up w w') : LogAt gl gd nm sz ct torn w' := (hu.block _ h.lt).trans h
theorem LogAt.keeps {gl gd : Nat} {nm : List UInt8} {sz ct : Nat} {torn : Bool} {w w' : World} {X : Nat → Prop} (h : LogAt gl gd nm sz ct torn w) (hK : Rg.Keeps X w w') (hx : ¬ X gl) : LogAt gl gd nm sz ct torn w' := (hK.block _ h.lt hx).trans h
theorem LogAt.c01 {gl gd : Nat} {nm : List UInt8} {sz ct : Nat} {torn : Bool} {w : World} (h : LogAt gl gd nm sz ct torn w) : w.cell? ⟨gl, 0, none⟩ = some (.pointer (some ⟨gd, 0, none⟩)) ∧ w.cell? ⟨gl, 1, none⟩ = some (.string (tx nm)) :=
  ⟨blk_cell (show w.heap[gl]? = _ from h) 0, blk_cell (show w.heap[gl]? = _ from h) 1⟩
/-- what a Log's operation does to memory -/
structure LgTo (gl : Nat) (h : Hp) (w : World) (h' : Hp) (w' : World) : Prop where
  g : h'.g = h.g
  kept : Rg.Keeps (fun k => foot h k ∨ k = gl) w w'
  foot : ∀ k, foot h' k → foot h k ∨ w.heap.size ≤ k
theorem LgTo.up {gl : Nat} {h : Hp} {w w' : World} (hu : Up w w') : LgTo gl h w h w' := ⟨rfl, Rg.Keeps.of_up hu, fun k hk => .inl hk⟩
theorem LgTo.dk {gl : Nat} {h h' : Hp} {w w' : World} (D : DkTo h w h' w') : LgTo gl h w h' w' := ⟨D.g, Keeps.weak D.kept (fun k hk => .inl hk), D.foot⟩
theorem LgTo.trans {gl : Nat} {h h' h'' : Hp} {w w' w'' : World} (x : LgTo gl h w h' w') (y : LgTo gl h' w' h'' w'') : LgTo gl h w h'' w'' := by
  refine ⟨y.g.trans x.g, ⟨y.kept.os.trans x.kept.os, y.kept.tape.trans x.kept.tape, y.kept.output.trans x.kept.output, Nat.le_trans x.kept.size y.kept.size, fun k hk hx => ?_⟩, fun k hk => ?_⟩
  · refine (y.kept.block k (Nat.lt_of_lt_of_le hk x.kept.size) (fun hf => ?_)).trans (x.kept.block k hk hx)
    rcases hf with hf | hf
    · rcases x.foot k hf with h1 | h1
      · exact hx (.inl h1)
      · omega
    · exact hx (.inr hf)
  · rcases y.foot k hk with h1 | h1
    · exact x.foot k h1
    · exact .inr (Nat.le_trans x.kept.size h1)
/-- what a Log does keeps all that lies below where its disk and it begin -/
theorem LgTo.below {gl B : Nat} {h h' : Hp} {d : Dk} {w0 w w' : World} (x : LgTo gl h w h' w') (H : DiskAt B h d w) (hB : w0.heap.size ≤ B) (hg : w0.heap.size ≤ gl) (hu : Up w0 w) : Up w0 w' :=
  ⟨x.kept.os.trans hu.os, x.kept.tape.trans hu.tape, x.kept.output.trans hu.output, Nat.le_trans hu.size x.kept.size, fun k hk => (x.kept.block k (Nat.lt_of_lt_of_le hk hu.size) (fun hf => by
    rcases hf with hf | hf
    · have := (H.lt hf).1; omega
    · omega)).trans (hu.block k hk)⟩
theorem LgTo.nf {gl : Nat} {h h' : Hp} {w w' : World} (x : LgTo gl h w h' w') {k : Nat} (hk : k < w.heap.size) (hn : ¬ Go.Proofs.Ytnjmekjaingniaa.foot h k) : ¬ Go.Proofs.Ytnjmekjaingniaa.foot h' k := fun hf => by
  rcases x.foot k hf with h1 | h1
  · exact hn h1
  · omega
/-- what New comes to -/
def LNewPost (B : Nat) (h : Hp) (d : Dk) (s : List UInt8) (w : World) (e : Ending) (w' : World) : Prop :=
  ∃ h', DiskAt B h' (createD d s).1 w' ∧ DkTo h w h' w' ∧
    (((createD d s).2 = 0 ∧ ∃ gl, e = .returned (.tuple #[.pointer (some ⟨gl, 0, none⟩), .int .i64 0]) ∧ LogAt gl h.g s 0 0 false w' ∧ ¬ foot h' gl ∧ w.heap.size ≤ gl) ∨
      ((createD d s).2 ≠ 0 ∧ e = .returned (.tuple #[.pointer none, .int .i64 ((createD d s).2 : Int)])))
set_option maxRecDepth 100000 in
set_option maxHeartbeats 1600000 in
theorem lnew_any {B : Nat} {h : Hp} {d : Dk} {w : World} (H : DiskAt B h d w) (hok : DkOk d) (hcl : d.calls ≤ 1000000000) (hnf : d.files.length < 1000000) (hnt : d.turns.length < 1000000) (s : List UInt8) (hs : s.length ≤ 9223372036854775807) :
    Calls Try.prog 23 #[.pointer (some ⟨h.g, 0, none⟩), .string (tx s)] w (LNewPost B h d s w) := by
  have hc := create_any H hok hcl hnf hnt s hs
  obtain ⟨d', E, hd⟩ : ∃ a b, createD d s = (a, b) := ⟨_, _, rfl⟩
  have hpost : LNewPost B h d s w = fun e w' => ∃ h', DiskAt B h' d' w' ∧ DkTo h w h' w' ∧ ((E = 0 ∧ ∃ gl, e = .returned (.tuple #[.pointer (some ⟨gl, 0, none⟩), .int .i64 0]) ∧ LogAt gl h.g s 0 0 false w' ∧ ¬ foot h' gl ∧ w.heap.size ≤ gl) ∨ (E ≠ 0 ∧ e = .returned (.tuple #[.pointer none, .int .i64 (E : Int)]))) := by
    unfold LNewPost; rw [hd]
  rw [hd] at hc
  (try dsimp only at hc)
  have HP := Lib.hid hpost
  have HC := Lib.hid hc
  clear hpost hc hd
  go_enter Try.func23, Try.ntmps23
  go_wp2_with fail
  refine HC.out.mono ?_
  rintro e w1 ⟨h1, rfl, H1, D1⟩
  by_cases hE : E = 0
  · have c1 : ((E : Int) != 0) = false := by rw [bne_eq_false_iff_eq]; omega
    have hup : Up w1 (w1.alloc (.cells #[.pointer (some ⟨h.g, 0, none⟩), .string (tx s), .int .i64 0, .int .i64 0, .bool false] 95)) := (Up.refl w1).alloc _
    go_wp2_with fail
    refine bodyPost_ret (v := .tuple #[.pointer (some ⟨w1.heap.size, 0, none⟩), .int .i64 0]) (by simp [results, Try.results23, go_sem]) rfl ?_
    rw [HP.out]
    exact ⟨h1, H1.up hup, D1.trans (DkTo.up hup), .inl ⟨hE, w1.heap.size, rfl, heap_alloc_new w1 _, fun hf => by have := (H1.lt hf).2; omega, D1.kept.size⟩⟩
  · have c1 : ((E : Int) != 0) = true := by rw [bne_iff_ne]; omega
    go_wp2_with fail
    refine bodyPost_ret (v := .tuple #[.pointer none, .int .i64 (E : Int)]) (by simp [results, Try.results23, go_sem]) rfl ?_
    rw [HP.out]
    exact ⟨h1, H1, D1, .inr ⟨hE, rfl⟩⟩
/-- Put: the error, the disk, the size, how many batches -/
def putS (d : Dk) (nm : List UInt8) (sz ct : Nat) (l : List It) : Nat × Dk × Nat × Nat :=
  if batE l ≠ 0 then (batE l, d, sz, ct)
  else if (appendD d nm (batB l)).2 ≠ 0 then ((appendD d nm (batB l)).2, (appendD d nm (batB l)).1, sz, ct)
  else (0, (appendD d nm (batB l)).1, sz + (batB l).length, ct + 1)
def PutPost (B gl : Nat) (h : Hp) (nm : List UInt8) (r : Nat × Dk × Nat × Nat) (w : World) (e : Ending) (w' : World) : Prop :=
  ∃ h', e = .returned (.int .i64 (r.1 : Int)) ∧ DiskAt B h' r.2.1 w' ∧ LogAt gl h.g nm r.2.2.1 r.2.2.2 false w' ∧ LgTo gl h w h' w'
set_option maxRecDepth 100000 in
set_option maxHeartbeats 3200000 in
theorem lput_any {B gl : Nat} {h : Hp} {d : Dk} {w : World} {nm : List UInt8} {sz ct : Nat} (H : DiskAt B h d w) (L : LogAt gl h.g nm sz ct false w) (hf : ¬ foot h gl) (hok : DkOk d) (hcl : d.calls ≤ 1000000000) (hs : nm.length ≤ 9223372036854775807)
    (hsz : sz ≤ 4611686018427387903) (hct : ct ≤ 4611686018427387903) (A : Option Addr) (n c : Nat) (l : List It) (hr : Rd w w.heap.size 5 A n (itcs l)) (hn : n ≤ 9223372036854775807) :
    Calls Try.prog 27 #[.pointer (some ⟨gl, 0, none⟩), .slice A n c] w (PutPost B gl h nm (putS d nm sz ct l) w) := by
  have hL : w.heap[gl]? = some (.cells #[.pointer (some ⟨h.g, 0, none⟩), .string (tx nm), .int .i64 (sz : Int), .int .i64 (ct : Int), .bool false] 95 (0, 0)) := L
  have c4 := blk_cell hL 4
  simp only [List.getElem?_toArray, List.getElem?_cons_zero, List.getElem?_cons_succ] at c4
  have hps : putS d nm sz ct l = if batE l ≠ 0 then (batE l, d, sz, ct)
    else if (appendD d nm (batB l)).2 ≠ 0 then ((appendD d nm (batB l)).2, (appendD d nm (batB l)).1, sz, ct)
    else (0, (appendD d nm (batB l)).1, sz + (batB l).length, ct + 1) := rfl
  have HPS := Lib.hid hps
  clear hps
  go_enter Try.func27, Try.ntmps27
  go_wp2_with fail
  clear c4
  refine (batch_any A n c l w hr hn).mono ?_
  rintro e w1 ⟨D, dn, dc, rfl, hoD, hu1⟩
  obtain ⟨be, hbe⟩ : ∃ be, be = batE l := ⟨_, rfl⟩
  have H1 := H.up hu1
  have L1 := L.up hu1
  have hl1 : gl < w.heap.size := L.lt
  have hdn := hoD.rd.blen
  by_cases hb0 : be = 0
  · have he0 : batE l = 0 := by rw [← hbe]; exact hb0
    have hlen := (batB_len he0).2
    have hps2 := HPS.out
    rw [← hbe, if_neg (by omega)] at hps2
    rw [← hbe]
    have c1 : ((be : Int) != 0) = false := by rw [bne_eq_false_iff_eq]; omega
    have hca := fun (W : World) (hW : Up w1 W) => dappend_any (H1.up hW) hok hcl nm hs D dn dc (batB l) (hoD.rd.up hW) (by omega) (fun k hk hfk => by
      have h8 := (H.lt hfk).2
      have h9 := (inA_own hoD hk).1
      omega)
    obtain ⟨d', E, hd⟩ : ∃ a b, appendD d nm (batB l) = (a, b) := ⟨_, _, rfl⟩
    rw [hd] at hca hps2
    (try dsimp only at hca hps2)
    have HCA := Lib.hid hca
    have HPS2 := Lib.hid hps2
    have hSz : ∀ W, Up w1 W → W.cell? ⟨gl, 0, none⟩ = some (.pointer (some ⟨h.g, 0, none⟩)) ∧ W.cell? ⟨gl, 1, none⟩ = some (.string (tx nm)) := fun W hW => (L1.up hW).c01
    have HDN := Lib.hid hdn
    have hdl : dn ≤ 60012 := by omega
    generalize batB l = bb at *
    clear hca hps2 he0 hb0 hd hbe HPS hr hlen hdn
    go_upto_region 6 with fail
    go_region_held3 (fun W => W.cell? ⟨gl, 0, none⟩ = some (.pointer (some ⟨h.g, 0, none⟩)) ∧ W.cell? ⟨gl, 1, none⟩ = some (.string (tx nm))) (first | exact hSz _ (Up.refl _) | exact hSz _ (Up.refl _).drew | assumption | go_keep) (first
      | (go_at_call 21; with_reducible refine (HCA.out _ (Up.refl _).drew).mono ?_; rintro e w3 ⟨h3, rfl, H3, D3⟩; have L3 : LogAt gl h.g nm sz ct false w3 := (L1.up (Up.refl _).drew).keeps D3.kept hf; have q3 := L3.c01))
    have T3 : LgTo gl h w h3 w3 := (LgTo.up (hu1.trans (Up.refl _).drew)).trans (LgTo.dk D3)
    clear hSz HCA D3 H1 L1 H L hL hoD hu1 q3
    by_cases hE : E = 0
    · have c2 : ((E : Int) != 0) = false := by rw [bne_eq_false_iff_eq]; omega
      have hL3 : w3.heap[gl]? = some (.cells #[.pointer (some ⟨h.g, 0, none⟩), .string (tx nm), .int .i64 (sz : Int), .int .i64 (ct : Int), .bool false] 95 (0, 0)) := L3
      have k2 : w3.cell? ⟨gl, 2, none⟩ = some (.int .i64 (sz : Int)) := blk_cell hL3 2
      have z2 := blk_free hL3 2
      have hw : IntKind.i64.wrap ((sz : Int) + (dn : Int)) = (sz : Int) + (dn : Int) := by rw [IntKind.wrap_i64]; omega
      have hr2 := HPS2.out
      rw [if_neg (by omega)] at hr2
      have HR := Lib.hid hr2
      clear hr2 HPS2 hE
      go_wp2_with fail
      have e4 : (sz : Int) + (dn : Int) = ((sz + dn : Nat) : Int) := by omega
      rw [e4]
      have hL4 : (w3.setCell ⟨gl, 2, none⟩ (.int .i64 ((sz + dn : Nat) : Int))).heap[gl]? = some (.cells #[.pointer (some ⟨h.g, 0, none⟩), .string (tx nm), .int .i64 ((sz + dn : Nat) : Int), .int .i64 (ct : Int), .bool false] 95 (0, 0)) := setc_heap w3 gl 2 _ _ _ hL3
      have hK4 : Rg.Keeps (fun k => k = gl) w3 (w3.setCell ⟨gl, 2, none⟩ (.int .i64 ((sz + dn : Nat) : Int))) := setc_keeps _ _ _ _ _ (Rg.Keeps.refl _ _)
      clear k2 z2 hw e4 hL3
      generalize w3.setCell ⟨gl, 2, none⟩ (.int .i64 ((sz + dn : Nat) : Int)) = w4 at *
      have hf3 : ¬ foot h3 gl := T3.nf hl1 hf
      have H4 := H3.keepsX hK4 (fun k hk e => hf3 (e ▸ hk))
      refine (iadd_any gl 3 (ct : Int) 1 w4 (blk_cell hL4 3) (blk_free hL4 3) (by omega)).mono ?_
      rintro e w5 ⟨rfl, rfl⟩
      have e5 : (ct : Int) + 1 = ((ct + 1 : Nat) : Int) := by omega
      rw [e5]
      have hL5 : (w4.setCell ⟨gl, 3, none⟩ (.int .i64 ((ct + 1 : Nat) : Int))).heap[gl]? = some (.cells #[.pointer (some ⟨h.g, 0, none⟩), .string (tx nm), .int .i64 ((sz + dn : Nat) : Int), .int .i64 ((ct + 1 : Nat) : Int), .bool false] 95 (0, 0)) := setc_heap w4 gl 3 _ _ _ hL4
      have hK5 : Rg.Keeps (fun k => k = gl) w4 (w4.setCell ⟨gl, 3, none⟩ (.int .i64 ((ct + 1 : Nat) : Int))) := setc_keeps _ _ _ _ _ (Rg.Keeps.refl _ _)
      have H5 := H4.keepsX hK5 (fun k hk e => hf3 (e ▸ hk))
      have T5 : LgTo gl h w h3 (w4.setCell ⟨gl, 3, none⟩ (.int .i64 ((ct + 1 : Nat) : Int))) := T3.trans ⟨rfl, Keeps.weak (Keeps.trans2 hK4 hK5) (fun k hk => .inr hk), fun k hk => .inl hk⟩
      generalize w4.setCell ⟨gl, 3, none⟩ (.int .i64 ((ct + 1 : Nat) : Int)) = w5 at *
      clear e5 hK4 hK5 H4 H3 hL4
      go_wp2_with fail
      go_ret
      rw [HR.out]
      exact ⟨h3, rfl, H5, by rw [← HDN.out]; exact hL5, T5⟩
    · have c2 : ((E : Int) != 0) = true := by rw [bne_iff_ne]; omega
      have hr2 := HPS2.out
      rw [if_pos hE] at hr2
      have HR := Lib.hid hr2
      clear hr2 HPS2 hE
      go_wp2_with fail
      go_ret
      rw [HR.out]
      exact ⟨h3, rfl, H3, L3, T3⟩
  · have c1 : ((be : Int) != 0) = true := by rw [bne_iff_ne]; omega
    have hps2 := HPS.out
    rw [← hbe, if_pos hb0] at hps2
    rw [← hbe]
    have HR := Lib.hid hps2
    clear hps2 HPS hb0 hbe hL
    go_wp2_with fail
    go_ret
    rw [HR.out]
    exact ⟨h, rfl, H1, L1, LgTo.up hu1⟩
set_option maxRecDepth 100000 in
theorem lcount_any {gl gd : Nat} {nm : List UInt8} {sz ct : Nat} {torn : Bool} {w : World} (L : LogAt gl gd nm sz ct torn w) : Calls Try.prog 29 #[.pointer (some ⟨gl, 0, none⟩)] w fun e w' => e = .returned (.int .i64 (ct : Int)) ∧ w' = w := by
  have hc : w.cell? ⟨gl, 3, none⟩ = some (.int .i64 (ct : Int)) := blk_cell (show w.heap[gl]? = _ from L) 3
  go_enter Try.func29, Try.ntmps29
  go_wp2_with fail
  refine (iload_any gl 3 (ct : Int) w hc).mono ?_
  rintro e w' ⟨rfl, rfl⟩
  go_wp2_with fail
  go_ret
  exact ⟨rfl, rfl⟩
set_option maxRecDepth 100000 in
theorem lsize_any {gl gd : Nat} {nm : List UInt8} {sz ct : Nat} {torn : Bool} {w : World} (L : LogAt gl gd nm sz ct torn w) : Calls Try.prog 28 #[.pointer (some ⟨gl, 0, none⟩)] w fun e w' => e = .returned (.int .i64 (sz : Int)) ∧ w' = w := by
  have hc : w.cell? ⟨gl, 2, none⟩ = some (.int .i64 (sz : Int)) := blk_cell (show w.heap[gl]? = _ from L) 2
  go_enter Try.func28, Try.ntmps28
  go_wp2_with fail
  go_ret
  exact ⟨rfl, rfl⟩
end Go.Proofs.Ytnjmekjaingniaa

/-
  A disk with one file, neither dead nor to stop, that may be said to fail: plain laws.
-/
namespace Go.Proofs.Ytnjmekjaingniaa
open Go.RowKit Go.Maps
set_option linter.unusedVariables false
set_option linter.unusedSimpArgs false

/-- one name that leads to the first file -/
def nmF (s : List UInt8) : Mp := (DataW.map [] : Mp).put (nk s) (fiv 0)
def dkF (q : Nat) (s b : List UInt8) (last c : Nat) (La : Mp) (Tu : List Tn) (fl : Nat) : Dk := ⟨q, [⟨b, last⟩], nmF s, La, Tu, c, false, 0, fl⟩
section
variable {q : Nat} {s b : List UInt8} {last c : Nat} {La : Mp} {Tu : List Tn} {fl : Nat}
theorem nmF_map (s : List UInt8) : nmF s = .map [(nk s, fiv 0)] := rfl
theorem dkF_find : findI (dkF q s b last c La Tu fl) s = some 0 := by
  unfold findI dkF nmF
  simp only []
  rw [Maps.has_put_same Maps.isMap_empty (show WideAt.IsKeyLit (nk s) from trivial), if_pos rfl]
  rw [mget_of (i := 0) (fun z => Maps.atKey_put_same Maps.isMap_empty (show WideAt.IsKeyLit (nk s) from trivial) _ z)]
theorem dkF_used : usedD (dkF q s b last c La Tu fl) = b.length := by
  unfold usedD dkF
  simp only []
  rw [nmF_map]
  simp [usedM, usedS, flenAt, fidx, fiv]
theorem dkF_new (hn : nameB s = true) : createD (newD q) s = (dkF q s [] 0 1 (.map []) [⟨1, 0, s, []⟩] 0, 0) := by
  have hcn : callN [s] (newD q) = ({ newD q with calls := 1 }, 0) := by
    unfold callN
    rw [if_pos (by simp [hn])]
    rfl
  unfold createD
  rw [hcn]
  rw [if_neg (by simp), if_neg (by simp [newD, Maps.has]), if_neg (by simp [newD, Maps.size])]
  simp [dkF, newD, nmF]
theorem dkF_callN (hn : nameB s = true) : callN [s] (dkF q s b last c La Tu fl) = if fl = 0 then (dkF q s b last (c + 1) La Tu 0, 0) else if fl = 1 then (dkF q s b last (c + 1) La Tu 0, 15) else (dkF q s b last (c + 1) La Tu (fl - 1), 0) := by
  unfold callN
  rw [if_pos (by simp [hn])]
  by_cases h0 : fl = 0
  · subst h0; rfl
  · by_cases h1 : fl = 1
    · subst h1; rfl
    · simp [callD, callS, dkF, h0, h1]
theorem dkF_append (p : List UInt8) (hn : nameB s = true) (hl : b.length + p.length ≤ 250000) (hq : b.length + p.length ≤ q) : appendD (dkF q s b last c La Tu 0) s p = (dkF q s (b ++ p) last (c + 1) La Tu 0, 0) := by
  unfold appendD
  rw [dkF_callN hn, if_pos rfl, dkF_find, dkF_used]
  dsimp only
  have hf : fileOf (dkF q s b last c La Tu 0) 0 = ⟨b, last⟩ := rfl
  have hqq : (dkF q s b last c La Tu 0).quota = q := rfl
  rw [hf, hqq]
  dsimp only
  rw [if_neg (by decide), if_neg (by omega), if_neg (by omega)]
  rfl
theorem dkF_fail (p : List UInt8) (hn : nameB s = true) : appendD (dkF q s b last c La Tu 1) s p = (dkF q s b last (c + 1) La Tu 0, 15) := by
  have hc : callN [s] (dkF q s b last c La Tu 1) = (dkF q s b last (c + 1) La Tu 0, 15) := by rw [dkF_callN hn]; rfl
  unfold appendD
  rw [hc, if_pos (by simp)]
theorem dkF_sync (hn : nameB s = true) : syncD (dkF q s b last c La Tu 0) s = (dkF q s b b.length (c + 1) La Tu 0, 0) := by
  unfold syncD
  rw [dkF_callN hn, if_pos rfl, dkF_find]
  dsimp only
  rw [if_neg (by decide)]
  rfl
theorem dkF_syncDir : syncDirD (dkF q s b last c La Tu 0) = (dkF q s b last (c + 1) (nmF s) [] 0, 0) := rfl
theorem dkF_read (hn : nameB s = true) : readD (dkF q s b last c La Tu fl) s = (b, 0) := by
  unfold readD
  rw [dkF_find, if_neg (by rw [hn]; decide)]
  rfl
theorem dkF_exists (hn : nameB s = true) : createD (dkF q s b last c La Tu 0) s = (dkF q s b last (c + 1) La Tu 0, 12) := by
  have hh : Maps.has (dkF q s b last c La Tu 0).names (nk s) = true := by
    show Maps.has (nmF s) (nk s) = true
    unfold nmF
    rw [Maps.has_put_same Maps.isMap_empty (show WideAt.IsKeyLit (nk s) from trivial)]
  have hcn : callN [s] (dkF q s b last c La Tu 0) = (dkF q s b last (c + 1) La Tu 0, 0) := by rw [dkF_callN hn]; rfl
  unfold createD
  rw [hcn, if_neg (by simp), if_pos hh]
theorem dkF_other {s2 : List UInt8} (h : s2 ≠ s) : (readD (dkF q s b last c La Tu fl) s2).2 ≠ 0 := by
  have hf : findI (dkF q s b last c La Tu fl) s2 = none := by
    unfold findI
    have hh : Maps.has (dkF q s b last c La Tu fl).names (nk s2) = false := by
      show Maps.has (nmF s) (nk s2) = false
      have hne : ¬ (nk s2 = nk s) := fun e => h (by injection e)
      unfold nmF
      rw [Maps.has_put_other hne]
      rfl
    rw [hh]; rfl
  unfold readD
  rw [hf]
  split
  · simp
  · split
    · simp
    · simp
theorem dkF_ok (h : b.length ≤ 250000) (h2 : last ≤ b.length) (hLa : La = .map [] ∨ La = nmF s) (hTu : Tu = [] ∨ Tu = [⟨1, 0, s, []⟩]) (hfl : fl ≤ 9223372036854775807) (hq : q ≤ 9223372036854775807) : DkOk (dkF q s b last c La Tu fl) := by
  have h0 : MOk (DataW.map [] : Mp) 1 := ⟨Maps.tidy_empty, fun kl hk => by simp [Maps.has] at hk⟩
  have h1 : MOk (nmF s) 1 := h0.put (by omega) s
  have hs : Maps.size (nmF s) ≤ 1000000 := by rw [nmF_map, Maps.size_eq]; simp
  refine ⟨h1, ?_, fun t ht => ?_, by simp [dkF], ?_, hs, ?_, fun f hf => ?_, Nat.zero_le _, hfl, hq⟩
  · rcases hLa with rfl | rfl
    · exact h0
    · exact h1
  · rcases hTu with rfl | rfl
    · cases ht
    · simp only [dkF, List.mem_singleton] at ht
      subst ht
      exact .inl (by simp [dkF])
  · rcases hTu with rfl | rfl <;> simp [dkF]
  · rcases hLa with rfl | rfl
    · simp [dkF, Maps.size]
    · exact hs
  · simp only [dkF, List.mem_singleton] at hf
    subst hf
    exact ⟨h, h2⟩
end
end Go.Proofs.Ytnjmekjaingniaa

/-
  The walks of the disk's led, and of what it calls.
-/
namespace Go.Proofs.Ytnjmekjaingniaa
open Go.RowKit Go.Maps
set_option linter.unusedVariables false
set_option linter.unusedSimpArgs false

theorem tcs_at (l : List Tn) {k : Nat} {t : Tn} (h : l[k]? = some t) (i : Nat) (hi : i < 4) : (tcs l)[k * 4 + i]? = t.cs[i]? := by
  induction l generalizing k with
  | nil => simp at h
  | cons q qs ih =>
    have hc : tcs (q :: qs) = q.cs ++ tcs qs := rfl
    have hl : q.cs.length = 4 := rfl
    rw [hc]
    cases k with
    | zero =>
      simp at h; subst h
      rw [List.getElem?_append_left (by omega), Nat.zero_mul, Nat.zero_add]
    | succ k =>
      simp at h
      rw [List.getElem?_append_right (by omega), hl, show (k + 1) * 4 + i - 4 = k * 4 + i by omega]
      exact ih h
theorem Rd.turn_at {w : World} {B n : Nat} {A : Option Addr} {l : List Tn} (h : Rd w B 4 A n (tcs l)) {k : Nat} (hk : k < n) (hl : n = l.length) : ∃ b o t, A = some ⟨b, o, none⟩ ∧ b < B ∧ l[k]? = some t ∧ w.cell? ⟨b, o + k * 4, none⟩ = some (.int .i64 (t.kind : Int)) ∧ w.cell? ⟨b, o + k * 4 + 1, none⟩ = some (.int .i64 (t.file : Int)) ∧ w.cell? ⟨b, o + k * 4 + 2, none⟩ = some (.string (tx t.a)) ∧ w.cell? ⟨b, o + k * 4 + 3, none⟩ = some (.string (tx t.b)) := by
  obtain ⟨b, o, rfl, hb, hc⟩ := h.2 (by omega)
  have ht : l[k]? = some l[k] := List.getElem?_eq_getElem (by omega)
  have hcc := fun i (hi : i < 4) u (hu : (l[k]'(by omega)).cs[i]? = some u) => hc (k * 4 + i) u ((tcs_at l ht i hi).trans hu)
  exact ⟨b, o, l[k], rfl, hb, ht, hcc 0 (by omega) _ rfl, hcc 1 (by omega) _ rfl, hcc 2 (by omega) _ rfl, hcc 3 (by omega) _ rfl⟩
theorem tcs_len (l : List Tn) : (tcs l).length = l.length * 4 := by
  induction l with
  | nil => rfl
  | cons q qs ih =>
    have hc : tcs (q :: qs) = q.cs ++ tcs qs := rfl
    rw [hc, List.length_append, ih, List.length_cons]
    show 4 + _ = _
    omega
theorem Rd.tlen {w : World} {B n : Nat} {A : Option Addr} {l : List Tn} (h : Rd w B 4 A n (tcs l)) : n = l.length := by have := h.1; rw [tcs_len] at this; omega
set_option maxRecDepth 100000 in
theorem ixT_any (g : Nat) (lb : Array Value) (p : Tn → Bool) (A : Option Addr) (n c : Nat) (l : List Tn) (w : World) (hr : Rd w w.heap.size 4 A n (tcs l)) (hn : n ≤ 1000000000)
    (eg : ∀ args w, (callFunc g args).run Try.prog w = .ok (.enter g args) w)
    (hp : ∀ (W : World) (x : Tn), Up w W → Calls Try.prog g (#[.agg #[.int .i64 (x.kind : Int), .int .i64 (x.file : Int), .string (tx x.a), .string (tx x.b)]] ++ lb) W fun e w' => e = .returned (.bool (p x)) ∧ Up W w') :
    Calls Try.prog 86 #[.slice A n c, .func (.func g) #[] lb] w fun e w' => ∃ z : Int, e = .returned (.int .i64 z) ∧ decide (0 ≤ z) = l.any p ∧ Up w w' := by
  have HL := Lib.hid hr.tlen
  have HP := Lib.hid hp
  clear hp
  go_enter Try.func86, Try.ntmps86
  go_wp2_with fail
  go_loopw [8] (fun i wr => ∃ k : Nat, i = .int .i64 (k : Int) ∧ k ≤ n ∧ Hid ((l.take k).any p = false) ∧ Up w wr) (fun i _ => n - (intOf i).toNat)
  case atStart => exact ⟨0, rfl, by omega, rfl, Up.refl _⟩
  case round =>
    obtain ⟨k, rfl, hk, hall, hu⟩ := hrel
    by_cases hlt : k < n
    · have hkl : k < l.length := by have := HL.out; omega
      obtain ⟨b, o, x, rfl, hb, hx, c0, c1, c2, c3⟩ := (hr.up hu).turn_at hlt HL.out
      have hsn : (l.take (k + 1)).any p = ((l.take k).any p || p x) := by rw [List.take_add_one, List.any_append, hx]; simp
      have hin : p x = true → l.any p = true := fun h9 => List.any_eq_true.2 ⟨x, List.mem_of_getElem? hx, h9⟩
      have HSN := Lib.hid hsn
      have HIN := Lib.hid hin
      clear hx hsn hin
      have hcall := HP.out wr x hu
      have hlti : (k : Int) < (n : Int) := by omega
      go_wp2_with fail
      refine hcall.mono ?_
      rintro e w2 ⟨rfl, hu2⟩
      obtain ⟨q, hq⟩ : ∃ q, q = p x := ⟨_, rfl⟩
      rw [← hq]
      have HQ := Lib.hid hq
      clear hq c0 c1 c2 c3 hcall
      cases q
      · go_wp2_with fail
        go_roundw
        case rel =>
          refine ⟨k + 1, by go_num, by omega, ?_, hu.trans hu2⟩
          show _ = _
          rw [HSN.out, hall.out, ← HQ.out]; rfl
        case measure => simp [intOf]; omega
      · go_wp2_with fail
        go_ret
        refine ⟨_, rfl, ?_, hu.trans hu2⟩
        rw [HIN.out HQ.out.symm, decide_eq_true_iff]
        omega
    · have hlti : ¬ (k : Int) < (n : Int) := by omega
      go_wp2_with fail
      go_ret
      refine ⟨_, rfl, ?_, hu⟩
      have h9 := hall.out
      rw [List.take_of_length_le (by have := HL.out; omega)] at h9
      rw [h9]; decide
set_option maxRecDepth 100000 in
theorem conT_any (g : Nat) (lb : Array Value) (p : Tn → Bool) (A : Option Addr) (n c : Nat) (l : List Tn) (w : World) (hr : Rd w w.heap.size 4 A n (tcs l)) (hn : n ≤ 1000000000)
    (eg : ∀ args w, (callFunc g args).run Try.prog w = .ok (.enter g args) w)
    (hp : ∀ (W : World) (x : Tn), Up w W → Calls Try.prog g (#[.agg #[.int .i64 (x.kind : Int), .int .i64 (x.file : Int), .string (tx x.a), .string (tx x.b)]] ++ lb) W fun e w' => e = .returned (.bool (p x)) ∧ Up W w') :
    Calls Try.prog 76 #[.slice A n c, .func (.func g) #[] lb] w fun e w' => e = .returned (.bool (l.any p)) ∧ Up w w' := by
  have HC := Lib.hid (ixT_any g lb p A n c l w hr hn eg hp)
  clear hp
  go_enter Try.func76, Try.ntmps76
  go_wp2_with fail
  refine HC.out.mono ?_
  rintro e w1 ⟨z, rfl, hz, hu⟩
  have HZ := Lib.hid hz
  clear hz
  go_wp2_with fail
  go_ret
  rw [← HZ.out]
  exact ⟨rfl, hu⟩
def madeT (i : Nat) (t : Tn) : Bool := decide (t.kind = 1) && decide (t.file = i)
set_option maxRecDepth 100000 in
theorem led2_any (gi i : Nat) (t : Tn) (w : World) (hg : gi < w.heap.size) (hc : w.cell? ⟨gi, 0, none⟩ = some (.int .i64 (i : Int))) :
    Calls Try.prog 77 #[.agg #[.int .i64 (t.kind : Int), .int .i64 (t.file : Int), .string (tx t.a), .string (tx t.b)], .pointer (some ⟨gi, 0, none⟩)] w fun e w' => e = .returned (.bool (madeT i t)) ∧ Up w w' := by
  have h0 : Up w (w.alloc (.cells #[.int .i64 (t.kind : Int), .int .i64 (t.file : Int), .string (tx t.a), .string (tx t.b)] 91)) := (Up.refl w).alloc _
  have hblk := heap_alloc_new w (.cells #[.int .i64 (t.kind : Int), .int .i64 (t.file : Int), .string (tx t.a), .string (tx t.b)] 91)
  have c0 := blk_cell hblk 0
  have c1 := blk_cell hblk 1
  have hc2 := (h0.cell (p := ⟨gi, 0, none⟩) hg).trans hc
  by_cases k1 : t.kind = 1
  · have b1 : ((t.kind : Int) == 1) = true := by rw [beq_iff_eq]; omega
    by_cases k2 : t.file = i
    · have b2 : ((t.file : Int) == (i : Int)) = true := by rw [beq_iff_eq]; omega
      have hm : madeT i t = true := by unfold madeT; rw [decide_eq_true k1, decide_eq_true k2]; rfl
      have HM := Lib.hid hm
      clear hm k1 k2
      go_enter Try.func77, Try.ntmps77
      go_wp2_with fail
      go_ret
      rw [HM.out]
      exact ⟨rfl, h0⟩
    · have b2 : ((t.file : Int) == (i : Int)) = false := by rw [beq_eq_false_iff_ne]; omega
      have hm : madeT i t = false := by unfold madeT; rw [decide_eq_false k2]; simp
      have HM := Lib.hid hm
      clear hm k1 k2
      go_enter Try.func77, Try.ntmps77
      go_wp2_with fail
      go_ret
      rw [HM.out]
      exact ⟨rfl, h0⟩
  · have b1 : ((t.kind : Int) == 1) = false := by rw [beq_eq_false_iff_ne]; omega
    have hm : madeT i t = false := by unfold madeT; rw [decide_eq_false k1]; simp
    have HM := Lib.hid hm
    clear hm k1
    go_enter Try.func77, Try.ntmps77
    go_wp2_with fail
    go_ret
    rw [HM.out]
    exact ⟨rfl, h0⟩
def valIn (D : Mp) (i : Nat) : Bool := match D with | .map es => es.any (fun p => decide (fidx p.2 = i)) | _ => false
set_option maxRecDepth 100000 in
set_option maxHeartbeats 800000 in
theorem led1_any (b n m gi i : Nat) (D : Mp) (w : World) (hown : w.ownsMap Try.prog 9 (plainElem Try.prog 3) b n D) (hM : MOk D m) (hg : gi < w.heap.size) (hc : w.cell? ⟨gi, 0, none⟩ = some (.int .i64 (i : Int))) :
    Calls Try.prog 75 #[.map (some b), .pointer (some ⟨gi, 0, none⟩)] w fun e w' => e = .returned (.bool (valIn D i)) ∧ Up w w' := by
  obtain ⟨es, hes, hpw, hkl⟩ := hown.entries strKey
  have hnm := hM.2
  have hud : valIn D i = es.any (fun p => decide (fidx p.2 = i)) := by rw [hes]; rfl
  have HES := Lib.hid hes
  have HUD := Lib.hid hud
  have HNM := Lib.hid hnm
  clear hes hud hnm
  go_enter Try.func75, Try.ntmps75
  go_wp2_with (at_range; refine wpList_range_own _ rfl _ 77 rfl 9 3 strKey Try.underlying77 (plainElem Try.prog 3) b _ D rfl hown ?_; intro w1 hrg1 hgr1 hsz1)
  go_frame
  have hup1 : Up w w1 := ⟨hgr1.os, hgr1.tape, hgr1.output, hgr1.size, fun k hk => hgr1.block k hk (by simp)⟩
  go_loopw [] (fun wr => ∃ (left : Lit → Bool) (cnt : Nat), wr.ranges Try.prog 9 (plainElem Try.prog 3) b w.heap.size n D left cnt ∧ Up w wr ∧ Hid (∀ kl, left kl = true → Maps.has D kl = true) ∧ Hid (∀ p ∈ es, left p.1 = false → fidx p.2 ≠ i)) (fun wr => wr.rangeLeft b w.heap.size)
  case atStart =>
    refine ⟨Maps.has D, _, hrg1, hup1, fun kl hk => hk, fun p hp hl => ?_⟩
    exfalso
    have h9 : Maps.has D p.1 = true := by
      rw [HES.out, Maps.has_eq, List.any_eq_true]
      exact ⟨p, hp, WideAt.sameKey_self (hkl p hp)⟩
    rw [h9] at hl
    cases hl
  case round =>
    obtain ⟨left, cnt, hrg, hup, hsub, hno⟩ := hrel
    clear hrg1 hgr1 hsz1 hup1
    have hle := hrg.left_eq
    have HLE := Lib.hid hle
    clear hle
    go_wp2_with (first
      | (at_next; refine wpList_next_ranges _ rfl _ rfl 9 strKey (plainElem Try.prog 3) Value.string (Value.int .i64) key_inv val_inv b w.heap.size _ D left cnt rfl hrg ?_ ?_)
      | go_in)
    · intro hc0 hl0
      have hv : valIn D i = false := by
        rw [HUD.out, List.any_eq_false]
        intro p hp
        rw [decide_eq_true_iff]
        exact hno.out p hp (hl0 p.1)
      have HV := Lib.hid hv
      clear hrg hv hc0 hl0
      go_wp2_with fail
      go_ret
      rw [HV.out]
      exact ⟨rfl, hup⟩
    · intro x cc2 kl y1 y2 w2 cnt2 hkx hlk hy hat hrg2 hlt hgr2 hsz2 hen
      obtain ⟨j, hj, hat0⟩ := HNM.out kl (hsub.out kl hlk)
      have hci : cc2 = (j : Int) := by
        obtain ⟨c', e1, e2, _⟩ := plainElem_int_inv Try.underlying3 hy
        injection e1 with _ e1
        subst e1
        injection e2 with e2 _
        have h9 := hat (fiv 0)
        rw [hat0 (fiv 0), e2] at h9
        unfold fiv at h9
        injection h9 with h9
        injection h9 with _ h9
        exact h9.symm
      subst hci
      have hup2 : Up w w2 := ⟨hgr2.os.trans hup.os, hgr2.tape.trans hup.tape, hgr2.output.trans hup.output, Nat.le_trans hup.size hgr2.size, fun k hk => (hgr2.block k (Nat.lt_of_lt_of_le hk hup.size) (by simp; omega)).trans (hup.block k hk)⟩
      have hc2 := (hup2.cell (p := ⟨gi, 0, none⟩) hg).trans hc
      have hes2 := HES.out
      obtain ⟨p, hp, hpk, hpa⟩ := atKey_mem (es := es) hpw (kl := kl) (by rw [← hes2]; exact hsub.out kl hlk)
      have hfp : fidx p.2 = j := by
        have h9 := hpa (fiv 0)
        rw [← hes2, hat0 (fiv 0)] at h9
        rw [← h9]
        rfl
      have HLT := Lib.hid hlt
      have HSUB : Hid (∀ z, (left z && !z.sameKey kl) = true → Maps.has D z = true) := fun z hz => hsub.out z (by
        rw [Bool.and_eq_true] at hz; exact hz.1)
      have HNO : j ≠ i → Hid (∀ q ∈ es, (left q.1 && !q.1.sameKey kl) = false → fidx q.2 ≠ i) := fun hji q hq hl => by
        by_cases hqk : q.1 = kl
        · have hqp : q = p := by
            have h8 := List.pairwise_iff_getElem.1 hpw
            obtain ⟨a, ha, rfl⟩ := List.getElem_of_mem hq
            obtain ⟨a2, ha2, rfl⟩ := List.getElem_of_mem hp
            rcases Nat.lt_trichotomy a a2 with h7 | h7 | h7
            · exact absurd (hqk.trans hpk.symm) (h8 a a2 ha ha2 h7)
            · subst h7; rfl
            · exact absurd (hpk.trans hqk.symm) (h8 a2 a ha2 ha h7)
          rw [hqp, hfp]; exact hji
        · rw [Maps.sameKey_ne hqk] at hl
          exact hno.out q hq (by simpa using hl)
      have HIN : j = i → Hid (valIn D i = true) := fun hji => by
        show _ = _
        rw [HUD.out, List.any_eq_true]
        exact ⟨p, hp, by rw [decide_eq_true_iff, hfp]; exact hji⟩
      clear hlt hfp hp hpk hpa hes2 hat hat0 hy hkx hlk hrg hsz2 hgr2
      by_cases hji : j = i
      · have hb : ((j : Int) == (i : Int)) = true := by rw [beq_iff_eq]; omega
        have HV := HIN hji
        clear HIN HNO hji
        go_wp2_with fail
        go_ret
        rw [HV.out]
        exact ⟨rfl, hup2⟩
      · have hb : ((j : Int) == (i : Int)) = false := by rw [beq_eq_false_iff_ne]; omega
        have HV := HNO hji
        clear HIN HNO hji
        go_wp2_with fail
        go_roundw
        case rel => exact ⟨fun z => left z && !z.sameKey kl, cnt2, hrg2, hup2, HSUB, HV⟩
        case measure =>
          rw [hrg2.left_eq, HLE.out]
          exact HLT.out
end Go.Proofs.Ytnjmekjaingniaa

/-
  The walk of the disk's led.
-/
namespace Go.Proofs.Ytnjmekjaingniaa
open Go.RowKit Go.Maps
set_option linter.unusedVariables false
set_option linter.unusedSimpArgs false

def nvd (l : List Nat) : List Value := l.map fun (k : Nat) => .int .i64 (k : Int)
theorem nvd_one (l : List Nat) : ∀ u ∈ nvd l, u.oneCell' = true := by
  intro u hu
  obtain ⟨k, _, rfl⟩ := List.mem_map.1 hu
  rfl
theorem nvd_len (l : List Nat) : (nvd l).length = l.length := by simp [nvd]
def ledB (d : Dk) (i : Nat) : Bool := d.turns.any (madeT i) || (valIn d.names i || valIn d.lasted i)
def ledT (d : Dk) (k : Nat) : List Nat := (List.range k).filter (ledB d)
def ledL (d : Dk) : List Nat := ledT d d.files.length
theorem ledT_succ (d : Dk) (k : Nat) : ledT d (k + 1) = if ledB d k = true then ledT d k ++ [k] else ledT d k := by
  unfold ledT
  rw [List.range_succ, List.filter_append]
  split
  · rename_i h; simp [h]
  · rename_i h; simp [h]
theorem ledT_len (d : Dk) (k : Nat) : (ledT d k).length ≤ k := by
  have := List.length_filter_le (ledB d) (List.range k)
  rw [List.length_range] at this
  exact this
theorem intsTd : SlT Try.prog 35 3 1 8 := SlT.mk' Try.underlying35 (z := .int .i64 0) (by kernel_rfl) rfl (by decide)
set_option maxRecDepth 100000 in
set_option maxHeartbeats 1600000 in
theorem led_any {B : Nat} {h : Hp} {d : Dk} {w : World} (H : DiskAt B h d w) (hok : DkOk d) :
    Calls Try.prog 53 #[.pointer (some ⟨h.g, 0, none⟩)] w fun e w' => ∃ R rn rc, e = .returned (.slice R rn rc) ∧ w'.ownsRow w.heap.size 3 1 (.slice R rn rc) rn (nvd (ledL d)) ∧ Up w w' := by
  obtain ⟨n, hn⟩ : ∃ n, n = d.files.length := ⟨_, rfl⟩
  have hn1 : n ≤ 1000000 := by rw [hn]; exact hok.nf
  have hnt : d.turns.length ≤ 1000000 := hok.nt
  have c1 : w.cell? ⟨h.g, 1, none⟩ = some (.slice h.fa n h.fc) := by rw [hn]; exact blk_cell H.hd 1
  have HN := Lib.hid hn
  have HLS := Lib.hid (ledT_succ d)
  have HLN := Lib.hid (ledT_len d)
  clear hn
  go_enter Try.func53, Try.ntmps53
  go_wp2_with fail
  clear c1
  go_loopw [3, 12] (fun ov iv wr => ∃ (k : Nat) (R : Option Addr) (rn rc : Nat), iv = .int .i64 (k : Int) ∧ ov = .slice R rn rc ∧ k ≤ n ∧ rn ≤ k ∧ wr.ownsRow w.heap.size 3 1 (.slice R rn rc) rn (nvd (ledT d k)) ∧ Up w wr) (fun _ iv _ => n - (intOf iv).toNat)
  case atStart => exact ⟨0, none, 0, 0, rfl, rfl, by omega, by omega, World.ownsRow_nil _ _ _ _, Up.refl _⟩
  case round =>
    obtain ⟨k, R, rn, rc, rfl, rfl, hk, hrk, hrow, hup⟩ := hrel
    by_cases hlt : k < n
    · have hlti : (k : Int) < (n : Int) := by omega
      have hua : Up wr (wr.alloc (.cells #[.int .i64 (k : Int)] 3)) := (Up.refl wr).alloc _
      have hca : (wr.alloc (.cells #[.int .i64 (k : Int)] 3)).cell? ⟨wr.heap.size, 0, none⟩ = some (.int .i64 (k : Int)) := blk_cell (heap_alloc_new wr (.cells #[.int .i64 (k : Int)] 3)) 0
      have hga : wr.heap.size < (wr.alloc (.cells #[.int .i64 (k : Int)] 3)).heap.size := by rw [World.size_alloc]; omega
      have hupa := hup.trans hua
      have Ha := H.up hupa
      have hrowa := own_up hrow hua
      have c4 : (wr.alloc (.cells #[.int .i64 (k : Int)] 3)).cell? ⟨h.g, 4, none⟩ = some (.slice h.ta d.turns.length h.tc) := blk_cell Ha.hd 4
      have hconT := conT_any 77 #[.pointer (some ⟨wr.heap.size, 0, none⟩)] (madeT k) h.ta d.turns.length h.tc d.turns (wr.alloc (.cells #[.int .i64 (k : Int)] 3)) (Rd.own Ha.turns) (by omega) (fun _ _ => rfl) (fun W x hW => led2_any wr.heap.size k x W (Nat.lt_of_lt_of_le hga hW.size) ((hW.cell (p := ⟨wr.heap.size, 0, none⟩) hga).trans hca))
      have HCT := Lib.hid hconT
      clear hconT hua hup hrow
      have hlb : ledB d k = (d.turns.any (madeT k) || (valIn d.names k || valIn d.lasted k)) := rfl
      have HLB := Lib.hid hlb
      clear hlb
      go_upto_region 5 with fail
      generalize hgi : wr.heap.size = gi at *
      generalize hwa : wr.alloc (.cells #[.int .i64 (k : Int)] 3) = wa at *
      clear hwa
      go_wp2_with fail
      refine HCT.out.mono ?_
      rintro e wb ⟨rfl, hub⟩
      clear HCT c4
      have Hb := Ha.up hub
      have hupb := hupa.trans hub
      have hrowb := own_up hrowa hub
      have hcb := (hub.cell (p := ⟨gi, 0, none⟩) hga).trans hca
      have hgb : gi < wb.heap.size := Nat.lt_of_lt_of_le hga hub.size
      have c2 : wb.cell? ⟨h.g, 2, none⟩ = some (.map (some h.nb)) := blk_cell Hb.hd 2
      have c3 : wb.cell? ⟨h.g, 3, none⟩ = some (.map (some h.lb)) := blk_cell Hb.hd 3
      have hwb : w.heap.size ≤ wb.heap.size := hupb.size
      clear Ha hrowa hca hga hub hupa
      generalize d.turns.any (madeT k) = m1 at *
      cases m1 with
      | true =>
        have hlt2 : ledB d k = true := by rw [HLB.out]; rfl
        have HL2 := Lib.hid hlt2
        clear hlt2
        have hbx : Rd ((wb).alloc (.cells #[.int .i64 (k : Int)] 3)) ((wb).alloc (.cells #[.int .i64 (k : Int)] 3)).heap.size 1 (some ⟨(wb).heap.size, 0, none⟩) 1 (nvd [k]) := Rd.box (wb) (.int .i64 (k : Int)) 3
        have hrx := own_up hrowb ((Up.refl wb).alloc (.cells #[.int .i64 (k : Int)] 3))
        have hux := (hupb).trans ((Up.refl wb).alloc (.cells #[.int .i64 (k : Int)] 3))
        have hszx : w.heap.size ≤ ((wb).alloc (.cells #[.int .i64 (k : Int)] 3)).heap.size := hux.size
        go_wp2_with (at_builtin; refine wpList_append_rd _ intsTd (news := nvd [k]) hrx hbx (nvd_one _) (by omega) (by omega) hszx rfl rfl rfl rfl ?_; intro v3 w6 ho6 hg6 hat6; obtain ⟨F2, fc2, rfl⟩ := own_form ho6)
        go_roundw
        case rel =>
          refine ⟨k + 1, F2, rn + 1, fc2, by go_num, rfl, by omega, by omega, ?_, hux.grown hg6 (fun g hg => (hrx.lt g hg).1)⟩
          rw [HLS.out, if_pos HL2.out]
          unfold nvd at ho6 ⊢
          rw [List.map_append]
          exact ho6
        case measure => simp [intOf]; omega
      | false =>
        have hc1 := led1_any h.nb _ d.files.length gi k d.names wb Hb.names hok.nm hgb hcb
        have HC1 := Lib.hid hc1
        clear hc1
        go_wp2_with fail
        refine HC1.out.mono ?_
        rintro e wc ⟨rfl, huc⟩
        clear HC1 c2 c3
        have Hc := Hb.up huc
        have hupc := hupb.trans huc
        have hrowc := own_up hrowb huc
        have hcc := (huc.cell (p := ⟨gi, 0, none⟩) hgb).trans hcb
        have hgc : gi < wc.heap.size := Nat.lt_of_lt_of_le hgb huc.size
        have c3 : wc.cell? ⟨h.g, 3, none⟩ = some (.map (some h.lb)) := blk_cell Hc.hd 3
        have hwc : w.heap.size ≤ wc.heap.size := hupc.size
        clear Hb hrowb hcb hgb huc hupb hwb
        generalize valIn d.names k = m2 at *
        cases m2 with
        | true =>
          have hlt2 : ledB d k = true := by rw [HLB.out]; rfl
          have HL2 := Lib.hid hlt2
          clear hlt2
          have hbx : Rd ((wc).alloc (.cells #[.int .i64 (k : Int)] 3)) ((wc).alloc (.cells #[.int .i64 (k : Int)] 3)).heap.size 1 (some ⟨(wc).heap.size, 0, none⟩) 1 (nvd [k]) := Rd.box (wc) (.int .i64 (k : Int)) 3
          have hrx := own_up hrowc ((Up.refl wc).alloc (.cells #[.int .i64 (k : Int)] 3))
          have hux := (hupc).trans ((Up.refl wc).alloc (.cells #[.int .i64 (k : Int)] 3))
          have hszx : w.heap.size ≤ ((wc).alloc (.cells #[.int .i64 (k : Int)] 3)).heap.size := hux.size
          go_wp2_with (at_builtin; refine wpList_append_rd _ intsTd (news := nvd [k]) hrx hbx (nvd_one _) (by omega) (by omega) hszx rfl rfl rfl rfl ?_; intro v3 w6 ho6 hg6 hat6; obtain ⟨F2, fc2, rfl⟩ := own_form ho6)
          go_roundw
          case rel =>
            refine ⟨k + 1, F2, rn + 1, fc2, by go_num, rfl, by omega, by omega, ?_, hux.grown hg6 (fun g hg => (hrx.lt g hg).1)⟩
            rw [HLS.out, if_pos HL2.out]
            unfold nvd at ho6 ⊢
            rw [List.map_append]
            exact ho6
          case measure => simp [intOf]; omega
        | false =>
          have hc1 := led1_any h.lb _ d.files.length gi k d.lasted wc Hc.lasted hok.la hgc hcc
          have HC1 := Lib.hid hc1
          clear hc1
          go_wp2_with fail
          refine HC1.out.mono ?_
          rintro e we ⟨rfl, hue⟩
          clear HC1 c3
          have hupe := hupc.trans hue
          have hrowe := own_up hrowc hue
          have hce := (hue.cell (p := ⟨gi, 0, none⟩) hgc).trans hcc
          have hwe : w.heap.size ≤ we.heap.size := hupe.size
          clear Hc hrowc hcc hgc hue hupc hwc
          generalize valIn d.lasted k = m3 at *
          cases m3 with
          | true =>
            have hlt2 : ledB d k = true := by rw [HLB.out]; rfl
            have HL2 := Lib.hid hlt2
            clear hlt2
            have hbx : Rd ((we).alloc (.cells #[.int .i64 (k : Int)] 3)) ((we).alloc (.cells #[.int .i64 (k : Int)] 3)).heap.size 1 (some ⟨(we).heap.size, 0, none⟩) 1 (nvd [k]) := Rd.box (we) (.int .i64 (k : Int)) 3
            have hrx := own_up hrowe ((Up.refl we).alloc (.cells #[.int .i64 (k : Int)] 3))
            have hux := (hupe).trans ((Up.refl we).alloc (.cells #[.int .i64 (k : Int)] 3))
            have hszx : w.heap.size ≤ ((we).alloc (.cells #[.int .i64 (k : Int)] 3)).heap.size := hux.size
            go_wp2_with (at_builtin; refine wpList_append_rd _ intsTd (news := nvd [k]) hrx hbx (nvd_one _) (by omega) (by omega) hszx rfl rfl rfl rfl ?_; intro v3 w6 ho6 hg6 hat6; obtain ⟨F2, fc2, rfl⟩ := own_form ho6)
            go_roundw
            case rel =>
              refine ⟨k + 1, F2, rn + 1, fc2, by go_num, rfl, by omega, by omega, ?_, hux.grown hg6 (fun g hg => (hrx.lt g hg).1)⟩
              rw [HLS.out, if_pos HL2.out]
              unfold nvd at ho6 ⊢
              rw [List.map_append]
              exact ho6
            case measure => simp [intOf]; omega
          | false =>
            have hlt2 : ¬ ledB d k = true := by rw [HLB.out]; decide
            have HL2 := Lib.hid hlt2
            clear hlt2
            go_wp2_with fail
            go_roundw
            case rel =>
              refine ⟨k + 1, R, rn, rc, by go_num, rfl, by omega, by omega, ?_, hupe⟩
              rw [HLS.out, if_neg HL2.out]
              exact hrowe
            case measure => simp [intOf]; omega
    · have hlti : ¬ (k : Int) < (n : Int) := by omega
      have hkn : k = n := by omega
      have HK := Lib.hid hkn
      clear hkn
      go_wp2_with fail
      go_ret
      refine ⟨R, rn, rc, rfl, ?_, hup⟩
      unfold ledL
      rw [← HN.out, ← HK.out]
      exact hrow
end Go.Proofs.Ytnjmekjaingniaa

/-
  Crash: the plain state, what is kept, and the closure that takes it.
-/
namespace Go.Proofs.Ytnjmekjaingniaa
open Go.RowKit Go.Maps
set_option linter.unusedVariables false
set_option linter.unusedSimpArgs false

def izs (l : List Int) : List Value := l.map fun x => .int .i64 x
def keepRest (x : Fi) : Nat := x.b.length - x.last
def crash1 (x : Fi) (v : Int) : Fi := ⟨x.b.take (x.last + (v % ((keepRest x : Int) + 1)).toNat), x.last + (v % ((keepRest x : Int) + 1)).toNat⟩
def crashF : List Nat → List Fi → List Int → List Fi × List Int
  | [], fs, keep => (fs, keep)
  | i :: r, fs, keep => if keepRest (fs.getD i ⟨[], 0⟩) = 0 then crashF r fs keep else crashF r (fs.set i (crash1 (fs.getD i ⟨[], 0⟩) (keep.headD (keepRest (fs.getD i ⟨[], 0⟩) : Int)))) keep.tail
def evI (v : Int) : Bool := bits .and .i64 v 1 == 0
def crashT : List Tn → Mp → List Int → Mp × List Int
  | [], D, keep => (D, keep)
  | t :: r, D, keep => crashT r (if evI (keep.headD 0) = true then doM t D else D) keep.tail
def crashD (d : Dk) (keep : List Int) : Dk :=
  { d with
    files := (crashF (ledL d) d.files keep).1
    names := (crashT d.turns d.lasted (crashF (ledL d) d.files keep).2).1
    lasted := (crashT d.turns d.lasted (crashF (ledL d) d.files keep).2).1
    turns := []
    dead := false
    stop := 0
    fail := 0 }
theorem crash1_ok {x : Fi} (v : Int) (h : x.b.length ≤ 250000 ∧ x.last ≤ x.b.length) : (crash1 x v).b.length ≤ 250000 ∧ (crash1 x v).last = (crash1 x v).b.length ∧ x.last + (v % ((keepRest x : Int) + 1)).toNat ≤ x.b.length := by
  have h1 : 0 ≤ v % ((keepRest x : Int) + 1) := Int.emod_nonneg _ (by omega)
  have h2 : v % ((keepRest x : Int) + 1) < (keepRest x : Int) + 1 := Int.emod_lt_of_pos _ (by omega)
  unfold keepRest at *
  unfold crash1 keepRest
  simp only [List.length_take]
  omega
theorem izs_one (l : List Int) : ∀ u ∈ izs l, u.oneCell' = true := by
  intro u hu
  obtain ⟨k, _, rfl⟩ := List.mem_map.1 hu
  rfl
theorem Rd.ilenZ {w : World} {B n : Nat} {A : Option Addr} {l : List Int} (h : Rd w B 1 A n (izs l)) : n = l.length := by have := h.1; simp [izs] at this; omega
theorem elem_z : Try.prog.elem 35 = 3 := by kernel_rfl
theorem cut_from_z (W : World) (A : Option Addr) (n c : Nat) (h1 : 1 ≤ n) :
    (Instr.slice 35 (.slice A n c) (some (.int .i64 1)) none none).run Try.prog W = .ok (.slice (cutA A c 1 1) (n - 1) (c - 1)) W := by
  rw [run_slice_l W 35 A n c (by rw [elem_z]; exact Try.underlying35) .i64 1 (by omega) (by omega), elem_z]
  have hs : ∀ w : World, (sizeOf 3).run Try.prog w = .ok 1 w := fun w => by
    obtain ⟨_, ⟨i, z, hi, _, hs, _⟩, _⟩ := intsTd
    simp [sizeOf, typeInfo, hi, hs]
  rw [hs]
  simp [sliced, cutA]
/-- what is kept, in the captured variable -/
structure KeepAt (gk : Nat) (l : List Int) (A : Option Addr) (n c : Nat) (w : World) : Prop where
  blk : w.heap[gk]? = some (.cells #[.slice A n c] 35 (0, 0))
  rd : Rd w w.heap.size 1 A n (izs l)
  nc : n ≤ c
  ne : 0 < n → ∀ a, A = some a → a.block ≠ gk
theorem KeepAt.keepsX {gk : Nat} {l : List Int} {A : Option Addr} {n c : Nat} {w w' : World} {X : Nat → Prop} (h : KeepAt gk l A n c w) (hK : Rg.Keeps X w w') (h1 : ¬ X gk) (h2 : 0 < n → ∀ a, A = some a → ¬ X a.block) : KeepAt gk l A n c w' :=
  ⟨(hK.block _ (Array.getElem?_eq_some_iff.1 h.blk).1 h1).trans h.blk, h.rd.keepsX0 (Nat.le_refl _) h2 hK, h.nc, h.ne⟩
theorem KeepAt.up {gk : Nat} {l : List Int} {A : Option Addr} {n c : Nat} {w w' : World} (h : KeepAt gk l A n c w) (hu : Up w w') : KeepAt gk l A n c w' :=
  ⟨(hu.block _ (Array.getElem?_eq_some_iff.1 h.blk).1).trans h.blk, h.rd.up hu, h.nc, h.ne⟩
set_option maxRecDepth 100000 in
theorem next_any {gk : Nat} {l : List Int} {A : Option Addr} {n c : Nat} {w : World} (H : KeepAt gk l A n c w) (hn : n ≤ 9223372036854775807) (dv : Int) :
    Calls Try.prog 52 #[.int .i64 dv, .pointer (some ⟨gk, 0, none⟩)] w fun e w' => ∃ A' n' c', e = .returned (.int .i64 (l.headD dv)) ∧ KeepAt gk l.tail A' n' c' w' ∧ n' ≤ n ∧ (∀ a', A' = some a' → ∃ a, A = some a ∧ a.block = a'.block) ∧ Rg.Keeps (fun k => k = gk) w w' := by
  have hc := blk_cell H.blk 0
  replace hc : w.cell? ⟨gk, 0, none⟩ = some (.slice A n c) := hc
  have hz := blk_free H.blk 0
  have hl := H.rd.ilenZ
  cases l with
  | nil =>
    have hn0 : n = 0 := by simpa using hl
    subst hn0
    clear hl
    go_enter Try.func52, Try.ntmps52
    go_wp2_with fail
    go_ret
    exact ⟨A, 0, c, rfl, H, Nat.le_refl _, fun a' ha' => ⟨a', ha', rfl⟩, Rg.Keeps.refl _ _⟩
  | cons x r =>
    have hn1 : 1 ≤ n := by rw [hl]; simp
    obtain ⟨b, o, rfl, hb, hcell⟩ := H.rd.2 (by omega)
    have hc0 := hcell 0 (.int .i64 x) rfl
    rw [Nat.add_zero] at hc0
    clear hcell
    have i1 : (0 : Int) < (n : Int) := by omega
    have hne0 : ((n : Int) == 0) = false := by rw [beq_eq_false_iff_ne]; omega
    have CUT := fun W => cut_from_z W (some ⟨b, o, none⟩) n c hn1
    have hgk : b ≠ gk := H.ne (by omega) _ rfl
    have hfr := H.rd.from_ (k := 1) (cap := c) hn1 H.nc
    have hset := setc_heap w gk 0 (.slice (cutA (some ⟨b, o, none⟩) c 1 1) (n - 1) (c - 1)) _ _ H.blk
    have hK : Rg.Keeps (fun k => k = gk) w (w.setCell ⟨gk, 0, none⟩ (.slice (cutA (some ⟨b, o, none⟩) c 1 1) (n - 1) (c - 1))) := setc_keeps _ _ _ _ _ (Rg.Keeps.refl _ _)
    have hblkA : ∀ a', cutA (some ⟨b, o, none⟩) c 1 1 = some a' → a'.block = b := fun a' ha' => by
      unfold cutA at ha'
      split at ha'
      · injection ha' with ha'; subst ha'; rfl
      · simp only [Option.map_some, Option.some.injEq] at ha'
        subst ha'
        unfold Addr.add
        split <;> rfl
    have core : KeepAt gk r (cutA (some ⟨b, o, none⟩) c 1 1) (n - 1) (c - 1) (w.setCell ⟨gk, 0, none⟩ (.slice (cutA (some ⟨b, o, none⟩) c 1 1) (n - 1) (c - 1))) := by
      refine ⟨hset, ?_, by have := H.nc; omega, fun _ a' ha' => by rw [hblkA a' ha']; exact hgk⟩
      refine Rd.keepsX (w := w) ?_ (Nat.le_refl _) (fun a' ha' e => hgk (by rw [← hblkA a' ha']; exact e)) hK
      have h9 := hfr
      rw [Nat.mul_one] at h9
      exact h9
    have HC := Lib.hid core
    have HK := Lib.hid hK
    have HA := Lib.hid hblkA
    clear hset hfr core hK hl hblkA
    go_enter Try.func52, Try.ntmps52
    go_wp2_with fail
    go_ret
    exact ⟨_, _, _, rfl, HC.out, Nat.sub_le _ _, fun a' ha' => ⟨⟨b, o, none⟩, rfl, (HA.out a' ha').symm⟩, HK.out⟩
end Go.Proofs.Ytnjmekjaingniaa

/-
  LogPlays: the plain laws.
-/
namespace Go.Proofs.Ytnjmekjaingniaa
open Go.RowKit Go.Maps
set_option linter.unusedVariables false
set_option linter.unusedSimpArgs false

theorem dkF_crash {q : Nat} {s b : List UInt8} {last c fl : Nat} (hl : last ≤ b.length) (keep : List Int) : ∃ k, last + k ≤ b.length ∧ crashD (dkF q s b last c (nmF s) [] fl) keep = dkF q s (b.take (last + k)) (last + k) c (nmF s) [] 0 := by
  have hled : ledL (dkF q s b last c (nmF s) [] fl) = [0] := by
    unfold ledL ledT ledB dkF
    simp only [nmF_map]
    simp [valIn, fidx, fiv]
  have hcr : crashD (dkF q s b last c (nmF s) [] fl) keep = ⟨q, (crashF [0] [⟨b, last⟩] keep).1, nmF s, nmF s, [], c, false, 0, 0⟩ := by
    unfold crashD
    rw [hled]
    rfl
  rw [hcr]
  by_cases h0 : keepRest ⟨b, last⟩ = 0
  · refine ⟨0, by omega, ?_⟩
    have : crashF [0] [⟨b, last⟩] keep = ([⟨b, last⟩], keep) := by
      unfold crashF
      simp only [List.getD_cons_zero]
      rw [if_pos h0]
      rfl
    rw [this]
    have hll : last = b.length := by unfold keepRest at h0; simp only [] at h0; omega
    simp [dkF, hll]
  · have h1 : 0 ≤ (keep.headD (keepRest ⟨b, last⟩ : Int)) % ((keepRest ⟨b, last⟩ : Int) + 1) := Int.emod_nonneg _ (by omega)
    have h2 : (keep.headD (keepRest ⟨b, last⟩ : Int)) % ((keepRest ⟨b, last⟩ : Int) + 1) < (keepRest ⟨b, last⟩ : Int) + 1 := Int.emod_lt_of_pos _ (by omega)
    refine ⟨((keep.headD (keepRest ⟨b, last⟩ : Int)) % ((keepRest ⟨b, last⟩ : Int) + 1)).toNat, ?_, ?_⟩
    · unfold keepRest at *; simp only [] at *; omega
    · have : crashF [0] [⟨b, last⟩] keep = ([crash1 ⟨b, last⟩ (keep.headD (keepRest ⟨b, last⟩ : Int))], keep.tail) := by
        unfold crashF
        simp only [List.getD_cons_zero]
        rw [if_neg h0]
        rfl
      rw [this]
      rfl
/-- how many batches stand whole ahead of a place -/
theorem endL_find (g : List (List It)) (K : Nat) (hK : K ≤ (logB g).length) : ∃ j, j ≤ g.length ∧ endL g j ≤ K ∧ (j < g.length → K < endL g (j + 1)) := by
  have key : ∀ f, f ≤ g.length → ∃ j, j ≤ f ∧ endL g j ≤ K ∧ (j < f → K < endL g (j + 1)) := by
    intro f
    induction f with
    | zero => intro _; exact ⟨0, Nat.le_refl _, by rw [endL_zero]; exact Nat.zero_le _, fun h => absurd h (Nat.not_lt_zero _)⟩
    | succ f ih =>
      intro hf
      obtain ⟨j, h1, h2, h3⟩ := ih (by omega)
      by_cases hjf : j < f
      · exact ⟨j, by omega, h2, fun _ => h3 hjf⟩
      · have : j = f := by omega
        subst this
        by_cases hlt : K < endL g (j + 1)
        · exact ⟨j, by omega, h2, fun _ => hlt⟩
        · exact ⟨j + 1, Nat.le_refl _, by omega, fun h => absurd h (Nat.lt_irrefl _)⟩
  exact key g.length (Nat.le_refl _)
theorem endL_le_mono (g : List (List It)) : ∀ (i k : Nat), endL g i ≤ endL g (i + k)
  | i, 0 => Nat.le_refl _
  | i, k + 1 => Nat.le_trans (endL_le_mono g i k) (endL_mono g (i + k))
/-- what was Synced stands whole -/
theorem endL_synced {g : List (List It)} {j sy K : Nat} (hj : j < g.length → K < endL g (j + 1)) (hs : endL g sy ≤ K) (hsy : sy ≤ g.length) : sy ≤ j := by
  rcases Nat.lt_or_ge j sy with h | h
  · have h1 := hj (by omega)
    obtain ⟨k, hk⟩ : ∃ k, sy = j + 1 + k := ⟨sy - (j + 1), by omega⟩
    have h2 := endL_le_mono g (j + 1) k
    rw [← hk] at h2
    omega
  · exact h
theorem endL_app (g : List (List It)) (q : List It) {n : Nat} (h : n ≤ g.length) : endL (g ++ [q]) n = endL g n := by
  unfold endL
  rw [List.take_append_of_le_length h]
/-- a batch of few items has few bytes -/
theorem batB_few {q : List It} (h : q.length ≤ 150) : (batB q).length ≤ 4830 := by
  by_cases he : batE q = 0
  · obtain ⟨h1, -⟩ := batB_frame he
    rw [h1, frameB_len]
    have h2 := numB_ten (n := q.length) (by omega)
    have h3 : ∀ q : List It, (q.flatMap itB).length ≤ 32 * q.length := fun q => by
      induction q with
      | nil => simp
      | cons i q ih => have := itB_len i; simp only [List.flatMap_cons, List.length_append, List.length_cons]; omega
    have h4 := h3 q
    unfold itemsB
    rw [List.length_append]
    omega
  · unfold batB; rw [if_neg he]; simp
theorem logB_few : ∀ (g : List (List It)), (∀ q ∈ g, q.length ≤ 150) → (logB g).length ≤ 4830 * g.length
  | [], _ => by simp [logB]
  | q :: g, h => by
    have h1 := logB_few g (fun x hx => h x (List.mem_cons_of_mem _ hx))
    have h2 := batB_few (h q (List.mem_cons_self ..))
    rw [logB_cons, List.length_append, List.length_cons]
    omega
end Go.Proofs.Ytnjmekjaingniaa

/-
  The walks of msg.isNode, msg.withItems, msg.Ok, and of the document's MsgOk.
-/
namespace Go.Proofs.Ytnjmekjaingniaa
open Go.RowKit
set_option linter.unusedVariables false
set_option linter.unusedSimpArgs false

theorem retb {a b : Bool} (h : a = b) : Ending.returned (.bool a) = .returned (.bool b) := by rw [h]
def nodeB (n : Int) : Bool := decide (0 ≤ n ∧ n < 7)
def withB (k : Int) : Bool := decide (k = 1 ∨ k = 5 ∨ k = 7 ∨ k = 8)
def msgB (k f t : Int) (id n : Nat) (l : List It) : Bool := decide (1 ≤ k ∧ k ≤ 10 ∧ (0 ≤ f ∧ f < 7) ∧ (0 ≤ t ∧ t < 7) ∧ id ≤ 1099511627776 ∧ n ≤ 281474976710656 ∧ l.length ≤ 1500 ∧ (l.length = 0 ∨ withB k = true)) && l.all okB
end Go.Proofs.Ytnjmekjaingniaa

/-
  The walks of slices.Equal at items, of the document's Equal at any two rows, of msg.Same and SameMsg.
-/
namespace Go.Proofs.Ytnjmekjaingniaa
open Go.RowKit
set_option linter.unusedVariables false
set_option linter.unusedSimpArgs false

theorem it_ext {a b : It} (h1 : a.s.toInt = b.s.toInt) (h2 : a.k.toInt = b.k.toInt) (h3 : a.t.toNat = b.t.toNat) (h4 : a.v.toNat = b.v.toNat) (h5 : a.x.toInt = b.x.toInt) : a = b := by
  obtain ⟨a1, a2, a3, a4, a5⟩ := a
  obtain ⟨b1, b2, b3, b4, b5⟩ := b
  simp only [It.mk.injEq]
  exact ⟨Int64.toInt_inj.1 h1, Int64.toInt_inj.1 h2, UInt64.toNat_inj.1 h3, UInt64.toNat_inj.1 h4, Int64.toInt_inj.1 h5⟩
instance : DecidableEq It := fun a b => decidable_of_iff (a.s.toInt = b.s.toInt ∧ a.k.toInt = b.k.toInt ∧ a.t.toNat = b.t.toNat ∧ a.v.toNat = b.v.toNat ∧ a.x.toInt = b.x.toInt)
  ⟨fun ⟨h1, h2, h3, h4, h5⟩ => it_ext h1 h2 h3 h4 h5, fun h => by rw [h]; exact ⟨rfl, rfl, rfl, rfl, rfl⟩⟩
set_option maxRecDepth 100000 in
set_option maxHeartbeats 4000000 in
theorem requal_any (A : Option Addr) (n c : Nat) (l : List It) (A' : Option Addr) (n' c' : Nat) (l' : List It) (w : World)
    (hr : Rd w w.heap.size 5 A n (itcs l)) (hr' : Rd w w.heap.size 5 A' n' (itcs l')) (hn : n ≤ 1099511627776) (hn' : n' ≤ 1099511627776) :
    Calls Try.prog 38 #[.slice A n c, .slice A' n' c'] w fun e w' => e = .returned (.bool (decide (l = l'))) ∧ Up w w' := by
  have HL := Lib.hid hr.ilen
  have HL' := Lib.hid hr'.ilen
  by_cases k6 : n = n'
  · subst k6
    have hnn : ((n : Int) != (n : Int)) = false := by simp
    go_enter Try.func38, Try.ntmps38
    go_wp2_with fail
    go_loopw [5] (fun i wr => ∃ k : Nat, i = .int .i64 (k : Int) ∧ k ≤ n ∧ Hid (l.take k = l'.take k) ∧ Up w wr) (fun i _ => n - (intOf i).toNat)
    case atStart => exact ⟨0, rfl, by omega, rfl, Up.refl _⟩
    case round =>
      obtain ⟨k, rfl, hk, ht, hu⟩ := hrel
      by_cases hlt : k < n
      · obtain ⟨b, o, x, rfl, hb, hx, c0, c1, c2, c3, c4⟩ := (hr.up hu).item_at hlt
        obtain ⟨b', o', y, rfl, hb', hy, d0, d1, d2, d3, d4⟩ := (hr'.up hu).item_at hlt
        obtain ⟨x1, hx1⟩ : ∃ z, z = x.s.toInt := ⟨_, rfl⟩
        obtain ⟨x2, hx2⟩ : ∃ z, z = x.k.toInt := ⟨_, rfl⟩
        obtain ⟨x3, hx3⟩ : ∃ z : Int, z = (x.t.toNat : Int) := ⟨_, rfl⟩
        obtain ⟨x4, hx4⟩ : ∃ z : Int, z = (x.v.toNat : Int) := ⟨_, rfl⟩
        obtain ⟨x5, hx5⟩ : ∃ z, z = x.x.toInt := ⟨_, rfl⟩
        obtain ⟨y1, hy1⟩ : ∃ z, z = y.s.toInt := ⟨_, rfl⟩
        obtain ⟨y2, hy2⟩ : ∃ z, z = y.k.toInt := ⟨_, rfl⟩
        obtain ⟨y3, hy3⟩ : ∃ z : Int, z = (y.t.toNat : Int) := ⟨_, rfl⟩
        obtain ⟨y4, hy4⟩ : ∃ z : Int, z = (y.v.toNat : Int) := ⟨_, rfl⟩
        obtain ⟨y5, hy5⟩ : ∃ z, z = y.x.toInt := ⟨_, rfl⟩
        rw [← hx1] at c0
        rw [← hx2] at c1
        rw [← hx3] at c2
        rw [← hx4] at c3
        rw [← hx5] at c4
        rw [← hy1] at d0
        rw [← hy2] at d1
        rw [← hy3] at d2
        rw [← hy4] at d3
        rw [← hy5] at d4
        have X1 := Lib.hid hx1
        have X2 := Lib.hid hx2
        have X3 := Lib.hid hx3
        have X4 := Lib.hid hx4
        have X5 := Lib.hid hx5
        have Y1 := Lib.hid hy1
        have Y2 := Lib.hid hy2
        have Y3 := Lib.hid hy3
        have Y4 := Lib.hid hy4
        have Y5 := Lib.hid hy5
        clear hx1 hx2 hx3 hx4 hx5 hy1 hy2 hy3 hy4 hy5
        have hS : ∀ W, Up wr W → Up wr W ∧ (W.cell? ⟨b, o + k * 5, none⟩ = some (.int .i64 x1) ∧ W.cell? ⟨b, o + k * 5 + 1, none⟩ = some (.int .i64 x2) ∧ W.cell? ⟨b, o + k * 5 + 2, none⟩ = some (.int .u64 x3) ∧ W.cell? ⟨b, o + k * 5 + 3, none⟩ = some (.int .u64 x4) ∧ W.cell? ⟨b, o + k * 5 + 4, none⟩ = some (.int .i64 x5)) ∧
            (W.cell? ⟨b', o' + k * 5, none⟩ = some (.int .i64 y1) ∧ W.cell? ⟨b', o' + k * 5 + 1, none⟩ = some (.int .i64 y2) ∧ W.cell? ⟨b', o' + k * 5 + 2, none⟩ = some (.int .u64 y3) ∧ W.cell? ⟨b', o' + k * 5 + 3, none⟩ = some (.int .u64 y4) ∧ W.cell? ⟨b', o' + k * 5 + 4, none⟩ = some (.int .i64 y5)) := fun W h =>
          ⟨h, ⟨(h.cell (p := ⟨b, o + k * 5, none⟩) hb).trans c0, (h.cell (p := ⟨b, o + k * 5 + 1, none⟩) hb).trans c1, (h.cell (p := ⟨b, o + k * 5 + 2, none⟩) hb).trans c2, (h.cell (p := ⟨b, o + k * 5 + 3, none⟩) hb).trans c3, (h.cell (p := ⟨b, o + k * 5 + 4, none⟩) hb).trans c4⟩,
            (h.cell (p := ⟨b', o' + k * 5, none⟩) hb').trans d0, (h.cell (p := ⟨b', o' + k * 5 + 1, none⟩) hb').trans d1, (h.cell (p := ⟨b', o' + k * 5 + 2, none⟩) hb').trans d2, (h.cell (p := ⟨b', o' + k * 5 + 3, none⟩) hb').trans d3, (h.cell (p := ⟨b', o' + k * 5 + 4, none⟩) hb').trans d4⟩
        have hkl : k < l.length := by have := HL.out; omega
        have hkl' : k < l'.length := by have := HL'.out; omega
        rw [List.getElem?_eq_getElem hkl] at hx
        rw [List.getElem?_eq_getElem hkl'] at hy
        injection hx with hx
        injection hy with hy
        have HX := Lib.hid hx
        have HX' := Lib.hid hy
        have hki : (k : Int) < (n : Int) := by omega
        have hkb : decide ((k : Int) < (n : Int)) = true := by simp; omega
        clear hx hy c0 c1 c2 c3 c4 d0 d1 d2 d3 d4
        by_cases m1 : x1 = y1
        · by_cases m2 : x2 = y2
          · by_cases m3 : x3 = y3
            · by_cases m4 : x4 = y4
              · by_cases m5 : x5 = y5
                · subst m1; subst m2; subst m3; subst m4; subst m5
                  have hxy := it_ext (X1.out.symm.trans Y1.out) (X2.out.symm.trans Y2.out) (by have := X3.out; have := Y3.out; omega) (by have := X4.out; have := Y4.out; omega) (X5.out.symm.trans Y5.out)
                  have HXY := Lib.hid hxy
                  clear hxy
                  go_wp2_with fail
                  apply Rg.region_up _ (by kernel_rfl) (by kernel_rfl) hS
                  · intro QN hQN
                    iterate 9 (apply Rg.RK.ok; (· intro vs w1 hS; go_simp; with_reducible rfl); (· rfl); simp only [Act.put, List.setIfInBounds_toArray, List.set_cons_zero, List.set_cons_succ, Nat.reduceAdd])
                    apply Rg.RK.fin []
                    intro vs w1 hK hS _
                    refine hQN.out _ _ ?_
                    clear hQN
                    go_wp2_with fail
                    go_roundw
                    case rel =>
                      refine ⟨k + 1, by go_num, by omega, ?_, hu.trans (keeps_up hK)⟩
                      show _ = _
                      rw [List.take_succ_eq_append_getElem hkl, List.take_succ_eq_append_getElem hkl', ht.out, HX.out, HX'.out, HXY.out]
                    case measure => simp [intOf]; omega
                  · kernel_rfl
                · have hne : l ≠ l' := by
                    intro e
                    subst e
                    have h := HX.out.symm.trans HX'.out
                    have a1 := X1.out; have a2 := X2.out; have a3 := X3.out; have a4 := X4.out; have a5 := X5.out
                    have b1 := Y1.out; have b2 := Y2.out; have b3 := Y3.out; have b4 := Y4.out; have b5 := Y5.out
                    rw [h] at a1 a2 a3 a4 a5
                    omega
                  have HNE := Lib.hid hne
                  clear hne
                  go_wp2_with fail
                  apply Rg.region_up _ (by kernel_rfl) (by kernel_rfl) hS
                  · intro QN hQN
                    iterate 9 (apply Rg.RK.ok; (· intro vs w1 hS; go_simp; with_reducible rfl); (· rfl); simp only [Act.put, List.setIfInBounds_toArray, List.set_cons_zero, List.set_cons_succ, Nat.reduceAdd])
                    apply Rg.RK.fin []
                    intro vs w1 hK hS _
                    refine hQN.out _ _ ?_
                    clear hQN
                    go_wp2_with fail
                    go_ret
                    refine ⟨retb ?_, hu.trans (keeps_up hK)⟩
                    have := HNE.out
                    simp [this]
                  · kernel_rfl
              · have hne : l ≠ l' := by
                  intro e
                  subst e
                  have h := HX.out.symm.trans HX'.out
                  have a1 := X1.out; have a2 := X2.out; have a3 := X3.out; have a4 := X4.out; have a5 := X5.out
                  have b1 := Y1.out; have b2 := Y2.out; have b3 := Y3.out; have b4 := Y4.out; have b5 := Y5.out
                  rw [h] at a1 a2 a3 a4 a5
                  omega
                have HNE := Lib.hid hne
                clear hne
                go_wp2_with fail
                apply Rg.region_up _ (by kernel_rfl) (by kernel_rfl) hS
                · intro QN hQN
                  iterate 9 (apply Rg.RK.ok; (· intro vs w1 hS; go_simp; with_reducible rfl); (· rfl); simp only [Act.put, List.setIfInBounds_toArray, List.set_cons_zero, List.set_cons_succ, Nat.reduceAdd])
                  apply Rg.RK.fin []
                  intro vs w1 hK hS _
                  refine hQN.out _ _ ?_
                  clear hQN
                  go_wp2_with fail
                  go_ret
                  refine ⟨retb ?_, hu.trans (keeps_up hK)⟩
                  have := HNE.out
                  simp [this]
                · kernel_rfl
            · have hne : l ≠ l' := by
                intro e
                subst e
                have h := HX.out.symm.trans HX'.out
                have a1 := X1.out; have a2 := X2.out; have a3 := X3.out; have a4 := X4.out; have a5 := X5.out
                have b1 := Y1.out; have b2 := Y2.out; have b3 := Y3.out; have b4 := Y4.out; have b5 := Y5.out
                rw [h] at a1 a2 a3 a4 a5
                omega
              have HNE := Lib.hid hne
              clear hne
              go_wp2_with fail
              apply Rg.region_up _ (by kernel_rfl) (by kernel_rfl) hS
              · intro QN hQN
                iterate 9 (apply Rg.RK.ok; (· intro vs w1 hS; go_simp; with_reducible rfl); (· rfl); simp only [Act.put, List.setIfInBounds_toArray, List.set_cons_zero, List.set_cons_succ, Nat.reduceAdd])
                apply Rg.RK.fin []
                intro vs w1 hK hS _
                refine hQN.out _ _ ?_
                clear hQN
                go_wp2_with fail
                go_ret
                refine ⟨retb ?_, hu.trans (keeps_up hK)⟩
                have := HNE.out
                simp [this]
              · kernel_rfl
          · have hne : l ≠ l' := by
              intro e
              subst e
              have h := HX.out.symm.trans HX'.out
              have a1 := X1.out; have a2 := X2.out; have a3 := X3.out; have a4 := X4.out; have a5 := X5.out
              have b1 := Y1.out; have b2 := Y2.out; have b3 := Y3.out; have b4 := Y4.out; have b5 := Y5.out
              rw [h] at a1 a2 a3 a4 a5
              omega
            have HNE := Lib.hid hne
            clear hne
            go_wp2_with fail
            apply Rg.region_up _ (by kernel_rfl) (by kernel_rfl) hS
            · intro QN hQN
              iterate 9 (apply Rg.RK.ok; (· intro vs w1 hS; go_simp; with_reducible rfl); (· rfl); simp only [Act.put, List.setIfInBounds_toArray, List.set_cons_zero, List.set_cons_succ, Nat.reduceAdd])
              apply Rg.RK.fin []
              intro vs w1 hK hS _
              refine hQN.out _ _ ?_
              clear hQN
              go_wp2_with fail
              go_ret
              refine ⟨retb ?_, hu.trans (keeps_up hK)⟩
              have := HNE.out
              simp [this]
            · kernel_rfl
        · have hne : l ≠ l' := by
            intro e
            subst e
            have h := HX.out.symm.trans HX'.out
            have a1 := X1.out; have a2 := X2.out; have a3 := X3.out; have a4 := X4.out; have a5 := X5.out
            have b1 := Y1.out; have b2 := Y2.out; have b3 := Y3.out; have b4 := Y4.out; have b5 := Y5.out
            rw [h] at a1 a2 a3 a4 a5
            omega
          have HNE := Lib.hid hne
          clear hne
          go_wp2_with fail
          apply Rg.region_up _ (by kernel_rfl) (by kernel_rfl) hS
          · intro QN hQN
            iterate 9 (apply Rg.RK.ok; (· intro vs w1 hS; go_simp; with_reducible rfl); (· rfl); simp only [Act.put, List.setIfInBounds_toArray, List.set_cons_zero, List.set_cons_succ, Nat.reduceAdd])
            apply Rg.RK.fin []
            intro vs w1 hK hS _
            refine hQN.out _ _ ?_
            clear hQN
            go_wp2_with fail
            go_ret
            refine ⟨retb ?_, hu.trans (keeps_up hK)⟩
            have := HNE.out
            simp [this]
          · kernel_rfl
      · go_wp2_with fail
        go_ret
        refine ⟨retb ?_, hu⟩
        have hkn : k = n := by omega
        have hll : l = l' := by
          have h := ht.out
          rwa [List.take_of_length_le (by have := HL.out; omega), List.take_of_length_le (by have := HL'.out; omega)] at h
        rw [hll]
        simp
  · have hne : decide (l = l') = false := by
      rw [decide_eq_false_iff_not]
      intro e
      apply k6
      rw [HL.out, HL'.out, e]
    have HNE := Lib.hid hne
    clear hne
    have hnn : ((n : Int) != (n' : Int)) = true := by simp; omega
    go_enter Try.func38, Try.ntmps38
    go_wp2_with fail
    go_ret
    refine ⟨retb ?_, Up.refl _⟩
    rw [HNE.out]
end Go.Proofs.Ytnjmekjaingniaa

/-
  Opening arguments: slices of items, of whole numbers.
-/
namespace Go.Proofs.Ytnjmekjaingniaa
open Go.ChangeShapes Go.WideShapes Go.ChangeAt Go.RowKit Go.Deep
set_option linter.unusedVariables false

instance : Inhabited It := ⟨⟨0, 0, 0, 0, 0⟩⟩
/-- a slice of items that came in -/
def IsI (w : World) (A : Option Addr) (n c : Nat) (l : List It) : Prop := Rd w w.heap.size 5 A n (itcs l) ∧ n ≤ c ∧ c ≤ 9223372036854775807
section
variable {H : Type} {enc : TypeId × Value → H} {W : World} {sp : Nat → Bool} {a : Option Addr} {len cap : Nat} {d : DataW H} {p : List MemPlace}
theorem is_i (h : DataW.Trod enc Try.prog W 0 (fun _ => true) true 22 (.slice a len cap) d p) : ∃ l, IsI W a len cap l := by
  obtain ⟨fuel, hf⟩ := h
  rcases open_slice Try.underlying22 hf with ⟨hcs, _⟩ | ⟨x, l, c, m, n, D, Pl, hcs, _, hl, hm, hmm, _, hx⟩
  · simp [Value.cells] at hcs
    obtain ⟨rfl, rfl, rfl⟩ := hcs
    exact ⟨[], Rd.empty, by omega, by omega⟩
  · simp [Value.cells] at hcs
    obtain ⟨rfl, rfl, rfl⟩ := hcs
    have hC : Try.prog.cellsOf 25 = 5 := by kernel_rfl
    rw [hC] at hx
    obtain ⟨L, hL, hr⟩ := rd_elems (W := W) (len := len) (a := x) (base := 0) itc (sz := 5) (fun _ => rfl) (by omega) (fun i hi => by
      obtain ⟨cs', h1, h2⟩ := hx i (by simp at hmm; omega)
      exact ⟨cs', h1, item_cells' h2⟩)
    exact ⟨L, hr, hl, by simpa only [maxLen] using hm⟩
/-- a slice of whole numbers that came in -/
def zvs (l : List Int64) : List Value := l.map fun z => Value.int .i64 z.toInt
def IsZ (w : World) (A : Option Addr) (n c : Nat) (l : List Int64) : Prop := Rd w w.heap.size 1 A n (zvs l) ∧ n ≤ c ∧ c ≤ 9223372036854775807
theorem is_z (h : DataW.Trod enc Try.prog W 0 (fun _ => true) true 35 (.slice a len cap) d p) : ∃ l, IsZ W a len cap l := by
  obtain ⟨fuel, hf⟩ := h
  rcases open_ints Try.underlying35 Try.underlying3 (by kernel_rfl) hf with ⟨hcs, _⟩ | ⟨x, l, c, zs, hcs, _, hl, hm, hz, _, hcell, hwz⟩
  · simp [Value.cells] at hcs
    obtain ⟨rfl, rfl, rfl⟩ := hcs
    exact ⟨[], Rd.empty, by omega, by omega⟩
  · simp [Value.cells] at hcs
    obtain ⟨rfl, rfl, rfl⟩ := hcs
    refine ⟨_, rd_ints (fun z : Int64 => Value.int .i64 z.toInt) (fun n => Int64.ofInt n) (fun n hn => ?_) hl (by simpa using hz) hcell hwz, hl, by simpa only [maxLen] using hm⟩
    exact congrArg _ (i64_of hn).symm
theorem Rd.zlen {w : World} {B n : Nat} {A : Option Addr} {q : List Int64} (h : Rd w B 1 A n (zvs q)) : n = q.length := by have := h.1; simp [zvs] at this; omega
theorem Rd.znum {w : World} {B n : Nat} {A : Option Addr} {q : List Int64} (h : Rd w B 1 A n (zvs q)) {k : Nat} (hk : k < n) :
    ∃ b o, A = some ⟨b, o, none⟩ ∧ b < B ∧ w.cell? ⟨b, o + k, none⟩ = some (.int .i64 (q.getD k 0).toInt) := by
  obtain ⟨b, o, e, hb, hc⟩ := h.2 (by omega)
  have hl : k < q.length := by have := h.zlen; omega
  exact ⟨b, o, e, hb, hc k _ (by simp [zvs, hl, List.getD])⟩
end
end Go.Proofs.Ytnjmekjaingniaa

/-
  Opening arguments: slices of slices of items.
-/
namespace Go.Proofs.Ytnjmekjaingniaa
open Go.ChangeShapes Go.WideShapes Go.ChangeAt Go.RowKit Go.Deep
set_option linter.unusedVariables false

/-- a slice of slices of items that came in -/
def IsRI (w : World) (A : Option Addr) (n c : Nat) (rs : List Rw) : Prop := Rd w w.heap.size 1 A n (rwv rs) ∧ (∀ r ∈ rs, IsI w r.A r.n r.c r.l) ∧ n ≤ c ∧ c ≤ 9223372036854775807
section
variable {H : Type} {enc : TypeId × Value → H} {W : World} {sp : Nat → Bool} {a : Option Addr} {len cap : Nat} {d : DataW H} {p : List MemPlace}
theorem row_cells {fuel : Nat} {cs : List Value} {y : DataW H × List MemPlace} (hf : DataW.trod enc Try.prog W 0 (fun _ => true) true fuel 22 cs = some y) : ∃ r : Rw, cs = [r.v] ∧ IsI W r.A r.n r.c r.l := by
  rcases open_slice Try.underlying22 hf with ⟨hcs, _⟩ | ⟨x, l, c, m, n, D, Pl, hcs, _, hl, hm, hmm, _, hx⟩
  · exact ⟨⟨none, 0, 0, []⟩, hcs, Rd.empty, by simp, by simp⟩
  · have hC : Try.prog.cellsOf 25 = 5 := by kernel_rfl
    rw [hC] at hx
    obtain ⟨L, hL, hr⟩ := rd_elems (W := W) (len := l) (a := x) (base := 0) itc (sz := 5) (fun _ => rfl) (by omega) (fun i hi => by
      obtain ⟨cs', h1, h2⟩ := hx i (by simp at hmm; omega)
      exact ⟨cs', h1, item_cells' h2⟩)
    exact ⟨⟨some x, l, c, L⟩, hcs, hr, hl, by simpa only [maxLen] using hm⟩
instance : Inhabited { r : Rw // IsI W r.A r.n r.c r.l } := ⟨⟨⟨none, 0, 0, []⟩, Rd.empty, by simp, by simp⟩⟩
theorem is_ri (h : DataW.Trod enc Try.prog W 0 (fun _ => true) true 33 (.slice a len cap) d p) : ∃ rs, IsRI W a len cap rs := by
  obtain ⟨fuel, hf⟩ := h
  rcases open_slice Try.underlying33 hf with ⟨hcs, _⟩ | ⟨x, l, c, m, n, D, Pl, hcs, _, hl, hm, hmm, _, hx⟩
  · simp [Value.cells] at hcs
    obtain ⟨rfl, rfl, rfl⟩ := hcs
    exact ⟨[], Rd.empty, fun r hr => (by cases hr), by omega, by omega⟩
  · simp [Value.cells] at hcs
    obtain ⟨rfl, rfl, rfl⟩ := hcs
    have hC : Try.prog.cellsOf 22 = 1 := by kernel_rfl
    rw [hC] at hx
    obtain ⟨L, hL, hr⟩ := rd_elems (α := { r : Rw // IsI W r.A r.n r.c r.l }) (W := W) (len := len) (a := x) (base := 0) (fun r => [r.1.v]) (sz := 1) (fun _ => rfl) (by omega) (fun i hi => by
      obtain ⟨cs', h1, h2⟩ := hx i (by simp at hmm; omega)
      obtain ⟨r, e, hp⟩ := row_cells h2
      exact ⟨cs', h1, ⟨r, hp⟩, e⟩)
    refine ⟨L.map (·.1), ?_, fun r hr' => ?_, hl, by simpa only [maxLen] using hm⟩
    · have e : rwv (L.map (·.1)) = L.flatMap fun r => [r.1.v] := by
        clear hr hL
        induction L with
        | nil => rfl
        | cons q r ih => simp only [rwv, List.map_cons, List.flatMap_cons, List.singleton_append] at *; rw [ih]
      rw [e]; exact hr
    · obtain ⟨q, _, rfl⟩ := List.mem_map.1 hr'
      exact q.2
end
end Go.Proofs.Ytnjmekjaingniaa

/-
  The walks of law14's Same, few and text.
-/
namespace Go.Proofs.Ytnjmekjaingniaa
open Go.RowKit
set_option linter.unusedVariables false
set_option linter.unusedSimpArgs false

set_option maxRecDepth 100000 in
set_option maxHeartbeats 1600000 in
theorem same14_any (A : Option Addr) (n c : Nat) (rs : List Rw) (A' : Option Addr) (n' c' : Nat) (rs' : List Rw) (w : World) (hr : Rd w w.heap.size 1 A n (rwv rs)) (ho : RwOk w rs) (hr' : Rd w w.heap.size 1 A' n' (rwv rs')) (ho' : RwOk w rs')
    (heq : rwl rs = rwl rs') (hb : ∀ r ∈ rs, r.l.length ≤ 1099511627776) (hn : n ≤ 1099511627776) :
    Calls Try.prog 16 #[.slice A n c, .slice A' n' c'] w fun e w' => e = .returned (.bool true) ∧ Up w w' := by
  have hm1 : n = rs.length := hr.rlen
  have hm2 : n' = rs'.length := hr'.rlen
  have hrn : rs.length = rs'.length := by rw [← rwl_len rs, heq, rwl_len]
  have hmm : n' = n := by omega
  subst hmm
  have HM1 := Lib.hid hm1
  have HM2 := Lib.hid hm2
  have HRL := Lib.hid heq
  have HB := Lib.hid hb
  have hne : ((n' : Int) != (n' : Int)) = false := by simp
  clear hm1 hm2 hrn heq hb
  go_enter Try.func16, Try.ntmps16
  go_wp2_with fail
  go_loopw [5] (fun i wr => ∃ k : Nat, i = .int .i64 (k : Int) ∧ k ≤ n' ∧ Up w wr) (fun i _ => n' - (intOf i).toNat)
  case atStart => exact ⟨0, rfl, by omega, Up.refl _⟩
  case round =>
    obtain ⟨k, rfl, hk, hu⟩ := hrel
    by_cases hkm : k < n'
    · have k1 : k < rs.length := by rw [← HM1.out]; exact hkm
      have k2 : k < rs'.length := by rw [← HM2.out]; exact hkm
      obtain ⟨bA, oA, rfl, hbA, hcA⟩ := hr.2 (by omega)
      obtain ⟨bB, oB, rfl, hbB, hcB⟩ := hr'.2 (by omega)
      have e1 := hcA k rs[k].v (by simp [rwv, k1])
      have e2 := hcB k rs'[k].v (by simp [rwv, k2])
      have o1 := ho rs[k] (List.getElem_mem _)
      have o2 := ho' rs'[k] (List.getElem_mem _)
      have hl12 : rs[k].l = rs'[k].l := by
        have h := congrArg (fun q => q[k]?) HRL.out
        simp only [rwl, List.getElem?_map, List.getElem?_eq_getElem k1, List.getElem?_eq_getElem k2, Option.map_some] at h
        injection h
      rw [← hl12] at o2
      have hq := HB.out rs[k] (List.getElem_mem _)
      generalize rs[k] = p1 at *
      generalize rs'[k] = p2 at *
      obtain ⟨A1, n1, c1, q1⟩ := p1
      obtain ⟨A2, n2, c2, q2⟩ := p2
      simp only [Rw.v] at e1 e2 o1 o2
      (try dsimp only at hq)
      have hb1 : n1 ≤ 1099511627776 := by have := o1.1.ilen; omega
      have hb2 : n2 ≤ 1099511627776 := by have := o2.1.ilen; omega
      have heq := fun W (h : Up wr W) => requal_any A1 n1 c1 q1 A2 n2 c2 q1 W (o1.1.up (hu.trans h)) (o2.1.up (hu.trans h)) hb1 hb2
      rw [show decide (q1 = q1) = true by simp] at heq
      have HEQ := Lib.hid heq
      have hS := fun W (h : Up wr W) => And.intro h (And.intro (((hu.trans h).cell (p := ⟨bA, oA + k, none⟩) hbA).trans e1) (((hu.trans h).cell (p := ⟨bB, oB + k, none⟩) hbB).trans e2))
      clear heq e1 e2 o1 o2 hl12 k1 k2 hq
      go_wp2_with fail
      apply Rg.region_up _ (by kernel_rfl) (by kernel_rfl) hS
      · intro QN hQN
        iterate 8 (apply Rg.RK.ok; (· intro vs w1 hS; go_simp; with_reducible rfl); (· rfl); simp only [Act.put, List.setIfInBounds_toArray, List.set_cons_zero, List.set_cons_succ, Nat.reduceAdd])
        apply Rg.RK.call (.bool true) []
        · rfl
        · intro vs w1 hK hS _ K hKK
          go_simp
          refine (HEQ.out w1 hS.1).mono ?_
          rintro e w2 ⟨rfl, hu2⟩
          exact hKK.out _ hu2
        simp only [Act.put, List.setIfInBounds_toArray, List.set_cons_zero, List.set_cons_succ, Nat.reduceAdd]
        iterate 1 (apply Rg.RK.ok; (· intro vs w1 hS; go_simp; with_reducible rfl); (· rfl); simp only [Act.put, List.setIfInBounds_toArray, List.set_cons_zero, List.set_cons_succ, Nat.reduceAdd])
        apply Rg.RK.fin []
        intro vs w1 hK hS _
        refine hQN.out _ _ ?_
        clear hQN
        have hu5 := hu.trans (keeps_up hK)
        clear hS hK
        go_wp2_with fail
        go_roundw
        case rel => exact ⟨k + 1, by go_num, by omega, hu5⟩
        case measure => simp [intOf] <;> omega
      · kernel_rfl
    · go_wp2_with fail
      go_ret
      exact ⟨rfl, hu⟩
/-- how many items, each row's at most 500 -/
def sumR (rs : List Rw) (k : Nat) : Nat := ((rs.take k).map fun r => min r.n 500).sum
theorem sumR_succ (rs : List Rw) {k : Nat} (h : k < rs.length) : sumR rs (k + 1) = sumR rs k + min rs[k].n 500 := by
  unfold sumR
  rw [List.take_succ_eq_append_getElem h, List.map_append, List.sum_append]
  simp
theorem le_sumN : ∀ (l : List Nat), ∀ x ∈ l, x ≤ l.sum
  | [], x, h => by cases h
  | a :: l, x, h => by
    rw [List.sum_cons]
    rcases List.mem_cons.1 h with rfl | h
    · omega
    · have := le_sumN l x h; omega
theorem sumR_few {rs : List Rw} (h : sumR rs rs.length ≤ 150) : ∀ r ∈ rs, r.n ≤ 150 := by
  intro r hr
  unfold sumR at h
  rw [List.take_length] at h
  have := le_sumN (rs.map fun r => min r.n 500) (min r.n 500) (List.mem_map.2 ⟨r, hr, rfl⟩)
  omega
def FewPost (n : Nat) (rs : List Rw) (w : World) (e : Ending) (w' : World) : Prop := ∃ b : Bool, e = .returned (.bool b) ∧ (b = true → n ≤ 15 ∧ ∀ r ∈ rs, r.n ≤ 150) ∧ Up w w'
theorem FewPost.no {n : Nat} {rs : List Rw} {w w' : World} (hu : Up w w') : FewPost n rs w (.returned (.bool false)) w' := ⟨false, rfl, (fun h => by cases h), hu⟩
theorem FewPost.yes {n : Nat} {rs : List Rw} {w w' : World} (hf : n ≤ 15 ∧ ∀ r ∈ rs, r.n ≤ 150) (hu : Up w w') : FewPost n rs w (.returned (.bool true)) w' := ⟨true, rfl, fun _ => hf, hu⟩
set_option maxRecDepth 100000 in
set_option maxHeartbeats 1600000 in
theorem few14_any (A : Option Addr) (n c : Nat) (rs : List Rw) (w : World) (hr : Rd w w.heap.size 1 A n (rwv rs)) (hn : n ≤ 9223372036854775807) (hb : ∀ r ∈ rs, r.n ≤ 9223372036854775807) :
    Calls Try.prog 13 #[.slice A n c] w (FewPost n rs w) := by
  have hm1 : n = rs.length := hr.rlen
  have HM := Lib.hid hm1
  have HB := Lib.hid hb
  clear hm1 hb
  go_enter Try.func13, Try.ntmps13
  go_wp2_with fail
  go_loopw [3, 4] (fun sv i wr => ∃ k s : Nat, i = .int .i64 (k : Int) ∧ sv = .int .i64 (s : Int) ∧ k ≤ n ∧ k ≤ 16 ∧ s ≤ 500 * k ∧ Hid (s = sumR rs k) ∧ Up w wr) (fun _ i _ => 16 - (intOf i).toNat)
  case atStart => exact ⟨0, 0, rfl, rfl, by omega, by omega, by omega, rfl, Up.refl _⟩
  case round =>
    obtain ⟨k, s, rfl, rfl, hk, hk16, hs, hsum, hup⟩ := hrel
    by_cases hlt : k < n
    · have i1 : (k : Int) < (n : Int) := by omega
      by_cases h15 : k ≤ 15
      · have i2 : (k : Int) ≤ 15 := by omega
        obtain ⟨b, o, r, rfl, hbb, hrk, hc0⟩ := hr.row_at hlt
        have hc : wr.cell? ⟨b, o + k, none⟩ = some (.slice r.A r.n r.c) := (hup.cell (p := ⟨b, o + k, none⟩) hbb).trans hc0
        have hk2 : k < rs.length := by rw [← HM.out]; exact hlt
        have hre : rs[k] = r := by rw [List.getElem?_eq_getElem hk2] at hrk; injection hrk
        have hrb := HB.out r (List.mem_of_getElem? hrk)
        obtain ⟨q, hq⟩ : ∃ q, q = min r.n 500 := ⟨_, rfl⟩
        have hmn : min (r.n : Int) (500 : Int) = (q : Int) := by omega
        have hq5 : q ≤ 500 := by omega
        have hs2 : s + q = sumR rs (k + 1) := by rw [sumR_succ rs hk2, hre, hq, hsum.out]
        have HS := Lib.hid hs2
        have hw : IntKind.i64.wrap ((s : Int) + (q : Int)) = ((s + q : Nat) : Int) := by rw [IntKind.wrap_i64]; omega
        clear hq hs2 hrk hk2 hre
        go_wp2_with fail
        go_roundw
        case rel => exact ⟨k + 1, s + q, by go_num, by go_num, by omega, by omega, by omega, HS, hup⟩
        case measure => simp [intOf] <;> omega
      · have i2 : ¬ (k : Int) ≤ 15 := by omega
        have i3 : ¬ (n : Int) ≤ 15 := by omega
        go_wp2_with fail
        go_ret
        exact FewPost.no hup
    · have i1 : ¬ (k : Int) < (n : Int) := by omega
      have hke : k = rs.length := by have := HM.out; omega
      by_cases h15 : n ≤ 15
      · have i3 : (n : Int) ≤ 15 := by omega
        by_cases h150 : s ≤ 150
        · have i4 : (s : Int) ≤ 150 := by omega
          have hf : Hid (n ≤ 15 ∧ ∀ r ∈ rs, r.n ≤ 150) := ⟨h15, sumR_few (by rw [← hke, ← hsum.out]; exact h150)⟩
          clear hke hsum
          go_wp2_with fail
          go_ret
          exact FewPost.yes (hf.out) hup
        · have i4 : ¬ (s : Int) ≤ 150 := by omega
          clear hke hsum
          go_wp2_with fail
          go_ret
          exact FewPost.no hup
      · have i3 : ¬ (n : Int) ≤ 15 := by omega
        clear hke hsum
        go_wp2_with fail
        go_ret
        exact FewPost.no hup
def goodR (rs : List Rw) : List Rw := rs.filter fun r => batE r.l == 0
theorem rwl_goodR (rs : List Rw) : rwl (goodR rs) = goodL (rwl rs) := by
  unfold rwl goodR goodL
  rw [List.filter_map]
  rfl
theorem goodR_succ (rs : List Rw) {k : Nat} (h : k < rs.length) : goodR (rs.take (k + 1)) = if batE rs[k].l = 0 then goodR (rs.take k) ++ [rs[k]] else goodR (rs.take k) := by
  unfold goodR
  rw [List.take_succ_eq_append_getElem h, List.filter_append]
  by_cases h0 : batE rs[k].l = 0
  · rw [if_pos h0, List.filter_cons_of_pos (by simp [h0])]; rfl
  · rw [if_neg h0, List.filter_cons_of_neg (by simp [h0])]; simp
theorem goodR_len (rs : List Rw) : (goodR rs).length ≤ rs.length := List.length_filter_le _ _
def endsG (g : List (List It)) : List Nat := (List.range (g.length + 1)).map (endL g)
theorem endsG_len (g : List (List It)) : (endsG g).length = g.length + 1 := by simp [endsG]
theorem endsG_get (g : List (List It)) {j : Nat} (h : j < g.length + 1) : (endsG g)[j]? = some (endL g j) := by simp [endsG, h]
theorem endsG_snoc (g : List (List It)) (q : List It) : endsG (g ++ [q]) = endsG g ++ [(logB (g ++ [q])).length] := by
  unfold endsG
  rw [List.length_append, List.length_singleton, List.range_succ, List.map_append]
  congr 1
  · apply List.map_congr_left
    intro j hj
    have := List.mem_range.1 hj
    unfold endL
    rw [List.take_append_of_le_length (by omega)]
  · have := endL_all (g ++ [q])
    rw [List.length_append, List.length_singleton] at this
    simp [this]
def TextPost (rs : List Rw) (w : World) (e : Ending) (w' : World) : Prop :=
  ∃ (G : Option Addr) (m gc : Nat) (E : Option Addr) (ec : Nat), e = .returned (.tuple #[.string (tx (logB (rwl (goodR rs)))), .slice G m gc, .slice E (m + 1) ec]) ∧ OwnRI w' w.heap.size G m gc (goodR rs) ∧ OwnK w' w.heap.size E (m + 1) ec (endsG (rwl (goodR rs))) ∧ Up w w'
set_option maxRecDepth 100000 in
set_option maxHeartbeats 3200000 in
theorem text14_any (A : Option Addr) (n c : Nat) (rs : List Rw) (w : World) (hr : Rd w w.heap.size 1 A n (rwv rs)) (ho : RwOk w rs) (hn : n ≤ 15) (hb : ∀ r ∈ rs, r.n ≤ 150) :
    Calls Try.prog 14 #[.slice A n c] w (TextPost rs w) := by
  have hm1 : n = rs.length := hr.rlen
  have HM := Lib.hid hm1
  have HB := Lib.hid hb
  have HO := Lib.hid ho
  have nil0 : ∀ w0, OwnRI w0 w.heap.size none 0 0 [] := fun w0 => OwnRI.nil _ _
  have NIL := Lib.hid nil0
  clear hm1 hb ho nil0
  have hua : Up w (w.alloc (.cells #[.int .i64 0] 3)) := (Up.refl w).alloc _
  have hrow : OwnK (w.alloc (.cells #[.int .i64 0] 3)) w.heap.size (some ⟨w.heap.size, 0, none⟩) (0 + 1) 1 (endsG (rwl (goodR (rs.take 0)))) := row_new w #[.int .i64 0] 3 (base := w.heap.size) (sz := 1) (n := 1) (Nat.le_refl _) rfl (by omega)
  go_enter Try.func14, Try.ntmps14
  go_wp2_with fail
  generalize w.alloc (.cells #[.int .i64 0] 3) = w1 at *
  go_loopw [5, 6, 7, 8] (fun sv gv ev i wr => ∃ (k m : Nat) (G : Option Addr) (gc : Nat) (E : Option Addr) (ec : Nat) (S : List UInt8) (gs : List Rw), i = .int .i64 (k : Int) ∧ sv = .string (tx S) ∧ gv = .slice G m gc ∧ ev = .slice E (m + 1) ec ∧ k ≤ n ∧ m ≤ k ∧ OwnRI wr w.heap.size G m gc gs ∧ OwnK wr w.heap.size E (m + 1) ec (endsG (rwl gs)) ∧ Hid (gs = goodR (rs.take k) ∧ S = logB (rwl gs)) ∧ S.length ≤ 60012 * k ∧ Up w wr) (fun _ _ _ i _ => n - (intOf i).toNat)
  case atStart => exact ⟨0, 0, none, 0, _, 1, [], goodR (rs.take 0), rfl, rfl, rfl, rfl, by omega, by omega, NIL.out _, hrow, ⟨rfl, rfl⟩, by simp, hua⟩
  case round =>
    obtain ⟨k, m, G, gc, E, ec, S, gs, rfl, rfl, rfl, rfl, hk, hm, hG, hE, hS, hsl, hup⟩ := hrel
    clear hrow hua
    by_cases hlt : k < n
    · have i1 : (k : Int) < (n : Int) := by omega
      obtain ⟨b, o, r, rfl, hbb, hrk, hc⟩ := hr.row_at hlt
      have hk2 : k < rs.length := by rw [← HM.out]; exact hlt
      have hre : rs[k] = r := by rw [List.getElem?_eq_getElem hk2] at hrk; injection hrk
      have hrb := HB.out r (List.mem_of_getElem? hrk)
      have hro := HO.out r (List.mem_of_getElem? hrk)
      have hgs := goodR_succ rs hk2
      rw [hre, ← hS.out.1] at hgs
      obtain ⟨rA, rn, rc, rl⟩ := r
      (try dsimp only at hc hrb hro hgs)
      have hc1 : wr.cell? ⟨b, o + k, none⟩ = some (.slice rA rn rc) := (hup.cell (p := ⟨b, o + k, none⟩) hbb).trans hc
      have hr1 := hro.1.up hup
      obtain ⟨be, hbe⟩ : ∃ be, be = batE rl := ⟨_, rfl⟩
      have hbm := rbmay14_any rA rn rc rl wr hr1 (by omega)
      rw [← hbe] at hgs hbm
      have HGS := Lib.hid hgs
      have HBM := Lib.hid hbm
      have HBE := Lib.hid hbe
      clear hrk hk2 hre hgs hbm hbe hc
      go_wp2_with fail
      refine HBM.out.mono ?_
      rintro e w3 ⟨rfl, hu3⟩
      have hc3 : w3.cell? ⟨b, o + k, none⟩ = some (.slice rA rn rc) := (hu3.cell (p := ⟨b, o + k, none⟩) (World.block_lt_of_cell? wr ⟨b, o + k, none⟩ hc1)).trans hc1
      have hr3 := hr1.up hu3
      have hup3 := hup.trans hu3
      have hG3 : OwnRI w3 w.heap.size G m gc gs := hG.up hu3
      have hE3 : OwnK w3 w.heap.size E (m + 1) ec (endsG (rwl gs)) := own_up hE hu3
      clear HBM hG hE hc1 hr1
      by_cases hb0 : be = 0
      · have c1 : ((be : Int) == 0) = true := by rw [beq_iff_eq]; omega
        have he0 : batE rl = 0 := by rw [← HBE.out]; exact hb0
        have hbat := rbatch_any rA rn rc rl w3 hr3 he0
        have hlen := (batB_len he0).2
        have hgs2 := HGS.out
        rw [if_pos hb0] at hgs2
        have hS2 : gs ++ [⟨rA, rn, rc, rl⟩] = goodR (rs.take (k + 1)) ∧ cc S (batB rl) = logB (rwl (gs ++ [⟨rA, rn, rc, rl⟩])) := ⟨hgs2.symm, by unfold cc; rw [rwl_snoc, logB_append, logB_one, ← hS.out.2]⟩
        have hE2 : endsG (rwl (gs ++ [⟨rA, rn, rc, rl⟩])) = endsG (rwl gs) ++ [(cc S (batB rl)).length] := by
          rw [hS2.2, rwl_snoc]; exact endsG_snoc _ _
        have HS2 := Lib.hid hS2
        have HE2 := Lib.hid hE2
        generalize batB rl = F at *
        have hcat : tx S ++ tx F = tx (cc S F) := tx_append' _ _
        have hnz : ¬ (9223372036854775807 < (tx S).size + (tx F).size) := by rw [tx_size, tx_size]; omega
        have hcl : (cc S F).length ≤ 60012 * (k + 1) := by rw [cc_length]; omega
        have hzc : (tx (cc S F)).size = (cc S F).length := tx_size _
        have HBAT := Lib.hid hbat
        clear hbat he0 hgs2 hS2 hE2 hb0 HGS hr3
        go_wp2_with fail
        refine HBAT.out.mono ?_
        rintro e w4 ⟨rfl, hu4⟩
        have hc4 : w4.cell? ⟨b, o + k, none⟩ = some (.slice rA rn rc) := (hu4.cell (p := ⟨b, o + k, none⟩) (World.block_lt_of_cell? w3 ⟨b, o + k, none⟩ hc3)).trans hc3
        have hup4 := hup3.trans hu4
        have hG4 : OwnRI w4 w.heap.size G m gc gs := hG3.up hu4
        have hE4 : OwnK w4 w.heap.size E (m + 1) ec (endsG (rwl gs)) := own_up hE3 hu4
        clear hc3 hG3 hE3 HBAT
        go_wp2_with (first
          | (at_builtin; refine wpList_append_rd _ rowsIT (news := [Value.slice rA rn rc]) (World.ownsRow.alloc hG4 _) (Rd.box _ _ _) (by intro u hu; simp at hu; subst hu; rfl) (by omega) (by omega) (by simp; have := hup4.size; omega) rfl rfl rfl rfl ?_; intro v5 w5 hown5 hg5 hat5; obtain ⟨G5, gc5, rfl⟩ := own_form hown5)
          | (at_builtin; refine wpList_append_rd _ intsT (news := nvi [(cc S F).length]) (World.ownsRow.alloc (own_far (World.ownsRow.alloc hG4 _) (World.ownsRow.alloc hE4 _) (by decide) hg5) _) (Rd.box _ _ _) (nvi_one _) (by omega) (by omega) (by simp; have := hup4.size; have := hg5.size; simp at this; omega) rfl rfl rfl rfl ?_; intro v6 w6 hown6 hg6 hat6; obtain ⟨E6, ec6, rfl⟩ := own_form hown6))
        have hE5 : OwnK w5 w.heap.size E (m + 1) ec (endsG (rwl gs)) := own_far (World.ownsRow.alloc hG4 _) (World.ownsRow.alloc hE4 _) (by decide) hg5
        have hu5 : Up w w5 := (hup4.alloc _).grown hg5 (fun g hg => (hG4.lt g hg).1)
        have hu6 : Up w w6 := (hu5.alloc _).grown hg6 (fun g hg => (hE5.lt g hg).1)
        have hG5 : OwnRI w5 w.heap.size G5 (m + 1) gc5 (gs ++ [⟨rA, rn, rc, rl⟩]) := OwnRI.snoc hown5
        have hG6 : OwnRI w6 w.heap.size G5 (m + 1) gc5 (gs ++ [⟨rA, rn, rc, rl⟩]) := own_far (World.ownsRow.alloc hE5 _) (World.ownsRow.alloc hG5 _) (by decide) hg6
        have hE6 : OwnK w6 w.heap.size E6 (m + 1 + 1) ec6 (endsG (rwl (gs ++ [⟨rA, rn, rc, rl⟩]))) := by
          rw [HE2.out]
          show World.ownsRow _ _ _ _ _ _ _
          have e : nvi (endsG (rwl gs) ++ [(cc S F).length]) = nvi (endsG (rwl gs)) ++ nvi [(cc S F).length] := by simp [nvi]
          rw [e]; exact hown6
        go_roundw
        case rel => exact ⟨k + 1, m + 1, G5, gc5, E6, ec6, cc S F, gs ++ [⟨rA, rn, rc, rl⟩], by go_num, rfl, rfl, rfl, by omega, by omega, hG6, hE6, HS2, hcl, hu6⟩
        case measure => simp [intOf] <;> omega
      · have c1 : ((be : Int) == 0) = false := by rw [beq_eq_false_iff_ne]; omega
        have hS2 : gs = goodR (rs.take (k + 1)) ∧ S = logB (rwl gs) := ⟨by rw [HGS.out, if_neg hb0], hS.out.2⟩
        have HS2 := Lib.hid hS2
        clear hS2 hS HGS
        go_wp2_with fail
        go_roundw
        case rel => exact ⟨k + 1, m, G, gc, E, ec, S, gs, by go_num, rfl, rfl, rfl, by omega, by omega, hG3, hE3, HS2, by omega, hup3⟩
        case measure => simp [intOf] <;> omega
    · have i1 : ¬ (k : Int) < (n : Int) := by omega
      have hke : k = rs.length := by have := HM.out; omega
      have hge : gs = goodR rs := by rw [hS.out.1, hke, List.take_length]
      have hSe := hS.out.2
      have HGE := Lib.hid hge
      have HSE := Lib.hid hSe
      clear hke hge hSe hS
      go_wp2_with fail
      refine bodyPost_ret (v := .tuple #[.string (tx S), .slice G m gc, .slice E (m + 1) ec]) (by simp [results, Try.results14, go_sem]) rfl ?_
      unfold TextPost
      rw [← HGE.out, ← HSE.out]
      exact ⟨G, m, gc, E, ec, rfl, hG, hE, hup⟩
end Go.Proofs.Ytnjmekjaingniaa

/-
  The walk of law14's awake.
-/
namespace Go.Proofs.Ytnjmekjaingniaa
open Go.RowKit Go.Maps
set_option linter.unusedVariables false
set_option linter.unusedSimpArgs false

def itL : It := ⟨1, 2, 0, 2, 0⟩
theorem itL_c : itcs [itL] = [.int .i64 1, .int .i64 2, .int .u64 0, .int .u64 2, .int .i64 0] := by simp [itcs, itc, itL]
theorem itL_len : (itemsB [itL]).length ≤ 42 := by
  have h1 := numB_ten (n := 1) (by omega)
  have h2 := itB_len itL
  unfold itemsB
  rw [List.length_append]
  simp only [List.flatMap_cons, List.flatMap_nil, List.append_nil, List.length_cons, List.length_nil, Nat.zero_add]
  omega
theorem itL_E : batE [itL] = 0 := by
  have h1 : bytesE [itL] = 0 := by decide +kernel
  have h2 := itL_len
  unfold batE
  rw [if_neg (by simp), h1, if_neg (by simp), if_neg (by omega)]
def nmL : List UInt8 := [108, 111, 103, 46, 49]
set_option maxRecDepth 100000 in
set_option maxHeartbeats 1600000 in
theorem awake14_any (w : World) : Calls Try.prog 12 #[] w fun e w' => e = .returned (.bool true) ∧ Up w w' := by
  obtain ⟨da, hda⟩ : ∃ d, d = newD 10000 := ⟨_, rfl⟩
  obtain ⟨db, hdb⟩ : ∃ d, d = dkF 10000 nmL [] 0 1 (.map []) [⟨1, 0, nmL, []⟩] 0 := ⟨_, rfl⟩
  have oka : DkOk da := by rw [hda]; exact newD_ok (by omega)
  have na : da.files.length = 0 ∧ da.turns.length = 0 ∧ da.calls = 0 := by rw [hda]; exact ⟨rfl, rfl, rfl⟩
  have okb : DkOk db := by rw [hdb]; exact dkF_ok (by simp) (by simp) (.inl rfl) (.inr rfl) (by omega) (by omega)
  have nb : db.calls = 1 := by rw [hdb]; rfl
  have e1 : createD da nmL = (db, 0) := by rw [hda, hdb]; exact dkF_new (q := 10000) (by decide)
  have hlen := (batB_len itL_E).2
  have e2 : ∃ dc, putS db nmL 0 0 [itL] = (0, dc, (batB [itL]).length, 1) := by
    have h9 : (batB [itL]).length ≤ 1000 := by
      obtain ⟨h1, h2⟩ := batB_frame itL_E
      rw [h1, frameB_len]
      have h3 := itL_len
      omega
    unfold putS
    rw [if_neg (by rw [itL_E]; decide), hdb, dkF_append _ (by decide) (by simp; omega) (by simp; omega)]
    rw [if_neg (by simp)]
    refine ⟨dkF 10000 nmL ([] ++ batB [itL]) 0 2 (.map []) [⟨1, 0, nmL, []⟩] 0, ?_⟩
    simp
  obtain ⟨dc, e2⟩ := e2
  have e3 : replL [] = some ([], 0) := rfl
  have HDA := Lib.hid hda
  have E1 := Lib.hid e1
  have E2 := Lib.hid e2
  have E3 := Lib.hid e3
  have NA := Lib.hid na
  have NB := Lib.hid nb
  clear hda hdb e1 e2 e3 na nb hlen
  go_enter Try.func12, Try.ntmps12
  go_wp2_with fail
  refine (dnew_any 10000 w).mono ?_
  rintro e w1 ⟨h1, rfl, H1, hu1, hf1⟩
  rw [← HDA.out] at H1
  go_wp2_with fail
  refine (lnew_any H1 oka (by have := NA.out; omega) (by have := NA.out; omega) (by have := NA.out; omega) nmL (by decide)).mono ?_
  rintro e w2 ⟨h2, H2, D2, hq⟩
  rw [E1.out] at H2 hq
  (try dsimp only at H2 hq)
  obtain ⟨gl, rfl, L2, hf2, hg2⟩ : ∃ gl, e = .returned (.tuple #[.pointer (some ⟨gl, 0, none⟩), .int .i64 0]) ∧ LogAt gl h1.g nmL 0 0 false w2 ∧ ¬ foot h2 gl ∧ w1.heap.size ≤ gl := hq.elim (fun h => h.2) (fun h => absurd rfl h.1)
  have hu2 := D2.below H1 (Nat.le_refl _) hu1
  have hgw : w.heap.size ≤ gl := Nat.le_trans hu1.size hg2
  have hgd : h2.g = h1.g := D2.g
  rw [← hgd] at L2
  clear hq H1 D2
  go_wp2_with fail
  refine (replay14_any none 0 0 [] w2 Rd.empty (by omega) (Nat.le_refl _)).mono ?_
  intro e w3 hq
  rw [E3.out] at hq
  obtain ⟨R, m, rc, rs, rfl, hR, -, hrl, hu3⟩ := hq
  (try dsimp only at hrl)
  have hm : m = 0 := by have := hR.len; rw [← rwl_len, hrl] at this; exact this
  subst hm
  have H3 := H2.up hu3
  have L3 := L2.up hu3
  have hu03 := hu2.trans hu3
  have hua : Up w3 (w3.alloc (.cells #[.int .i64 1, .int .i64 2, .int .u64 0, .int .u64 2, .int .i64 0] 25)) := (Up.refl w3).alloc _
  have hri := Rd.ilit_at w3 [itL] #[.int .i64 1, .int .i64 2, .int .u64 0, .int .u64 2, .int .i64 0] 25 rfl itL_c.symm
  have H4 := H3.up hua
  have L4 := L3.up hua
  have hu04 := hu03.trans hua
  clear H2 L2 H3 L3 hR hu3 hu2 hua hu03 hrl hu1 hf1
  go_wp2_with fail
  generalize w3.alloc (.cells #[.int .i64 1, .int .i64 2, .int .u64 0, .int .u64 2, .int .i64 0] 25) = w4 at *
  refine (lput_any H4 L4 hf2 okb (by have := NB.out; omega) (by decide) (by omega) (by omega) _ 1 1 [itL] hri (by omega)).mono ?_
  rintro e w5 ⟨h5, rfl, H5, L5, T5⟩
  rw [E2.out] at H5 L5 ⊢
  (try dsimp only at H5 L5)
  (try dsimp only)
  have hu05 := T5.below H4 (Nat.le_refl _) hgw hu04
  clear H4 L4 T5 hri hu04
  go_wp2_with fail
  refine (lcount_any L5).mono ?_
  rintro e w6 ⟨rfl, rfl⟩
  go_wp2_with fail
  go_ret
  exact ⟨rfl, hu05⟩
end Go.Proofs.Ytnjmekjaingniaa
