/-
  Texts of this claim, joined: RkA, RkW1, RkW2, DkNm, DkW13, RkW3, RkW4, RkW5, RkW6, RkW7.
-/
import Derived.Sort.Walk0
import Derived.StillTailTactics
import Derived.Sort.KeysCollected
import Derived.Deep.Cut
import Derived.Test.YtebhhfmekmpnkaaZ3
/-
  The document's disk: its plain state, and how it lies in memory.
-/
namespace Go.Proofs.Ytebhhfmekmpnkaa
open Go.RowKit Go.Maps
set_option linter.unusedVariables false
set_option linter.unusedSimpArgs false

/-! ### the plain state -/
/-- a name, and the file that it leads to -/
abbrev Nm := List UInt8 × Nat
def nmc (x : Nm) : List Value := [.string (tx x.1), .int .i64 (x.2 : Int)]
def ncs (l : List Nm) : List Value := l.flatMap nmc
def fic (x : Fi) : List Value := [.string (tx x.b), .int .i64 (x.last : Int)]
def fcs (l : List Fi) : List Value := l.flatMap fic
theorem nmc_len (x : Nm) : (nmc x).length = 2 := rfl
theorem fic_len (x : Fi) : (fic x).length = 2 := rfl
theorem tnc_len (x : Tn) : x.cs.length = 4 := rfl
theorem ncs_len (l : List Nm) : (ncs l).length = l.length * 2 := flat_len nmc nmc_len l
theorem fcs_len (l : List Fi) : (fcs l).length = l.length * 2 := flat_len fic fic_len l
theorem ncs_append (a b : List Nm) : ncs (a ++ b) = ncs a ++ ncs b := by simp [ncs]
theorem fcs_append (a b : List Fi) : fcs (a ++ b) = fcs a ++ fcs b := by simp [fcs]
theorem tcs_append (a b : List Tn) : tcs (a ++ b) = tcs a ++ tcs b := by simp [tcs]
theorem ncs_one (l : List Nm) : ∀ u ∈ ncs l, u.oneCell' = true := by
  intro u hu
  simp only [ncs, List.mem_flatMap] at hu
  obtain ⟨i, _, h⟩ := hu
  simp only [nmc, List.mem_cons, List.not_mem_nil, or_false] at h
  rcases h with rfl | rfl <;> rfl
theorem fcs_one (l : List Fi) : ∀ u ∈ fcs l, u.oneCell' = true := by
  intro u hu
  simp only [fcs, List.mem_flatMap] at hu
  obtain ⟨i, _, h⟩ := hu
  simp only [fic, List.mem_cons, List.not_mem_nil, or_false] at h
  rcases h with rfl | rfl <;> rfl
theorem tcs_one (l : List Tn) : ∀ u ∈ tcs l, u.oneCell' = true := by
  intro u hu
  simp only [tcs, List.mem_flatMap] at hu
  obtain ⟨i, _, h⟩ := hu
  simp only [Tn.cs, List.mem_cons, List.not_mem_nil, or_false] at h
  rcases h with rfl | rfl | rfl | rfl <;> rfl
theorem flat2_take {α : Type} (f : α → List Value) (hf : ∀ x, (f x).length = 2) (l : List α) (k : Nat) : (l.flatMap f).take (k * 2) = (l.take k).flatMap f := by
  induction l generalizing k with
  | nil => simp
  | cons x l ih =>
    cases k with
    | zero => simp
    | succ k =>
      have := ih k
      simp only [List.flatMap_cons, List.take_succ_cons] at this ⊢
      rw [← this, List.take_append, List.take_of_length_le (by rw [hf]; omega), hf, show (k + 1) * 2 - 2 = k * 2 by omega]
theorem flat2_drop {α : Type} (f : α → List Value) (hf : ∀ x, (f x).length = 2) (l : List α) (k : Nat) : (l.flatMap f).drop (k * 2) = (l.drop k).flatMap f := by
  induction l generalizing k with
  | nil => simp
  | cons x l ih =>
    cases k with
    | zero => simp
    | succ k =>
      have := ih k
      simp only [List.flatMap_cons, List.drop_succ_cons] at this ⊢
      rw [← this, List.drop_append, List.drop_of_length_le (by rw [hf]; omega), hf, show (k + 1) * 2 - 2 = k * 2 by omega, List.nil_append]
section
variable {w : World} {B n c k : Nat} {A : Option Addr}
theorem Rd.nlen {l : List Nm} (h : Rd w B 2 A n (ncs l)) : n = l.length := by have := h.1; rw [ncs_len] at this; omega
theorem Rd.flen2 {l : List Fi} (h : Rd w B 2 A n (fcs l)) : n = l.length := by have := h.1; rw [fcs_len] at this; omega
theorem Rd.nto {l : List Nm} (h : Rd w B 2 A n (ncs l)) (hk : k ≤ n) : Rd w B 2 A k (ncs (l.take k)) := by
  have := h.to_ hk
  rwa [show (ncs l).take (k * 2) = ncs (l.take k) from flat2_take nmc nmc_len l k] at this
theorem Rd.nfrom {l : List Nm} (h : Rd w B 2 A n (ncs l)) (hk : k ≤ n) (hc : n ≤ c) : Rd w B 2 (cutA A c k 2) (n - k) (ncs (l.drop k)) := by
  have h1 := h.from_ hk hc
  rw [show (ncs l).drop (k * 2) = ncs (l.drop k) from flat2_drop nmc nmc_len l k] at h1
  exact h1
theorem Rd.name_at {l : List Nm} (h : Rd w B 2 A n (ncs l)) (hk : k < n) :
    ∃ b o f, A = some ⟨b, o, none⟩ ∧ b < B ∧ l[k]? = some f ∧ w.cell? ⟨b, o + k * 2, none⟩ = some (.string (tx f.1)) ∧ w.cell? ⟨b, o + k * 2 + 1, none⟩ = some (.int .i64 (f.2 : Int)) := by
  have hl := h.nlen
  obtain ⟨b, o, e, hb, hc⟩ := h.2 (by omega)
  have hkl : k < l.length := by omega
  have got : ∀ j u, j < 2 → (nmc l[k])[j]? = some u → w.cell? ⟨b, o + k * 2 + j, none⟩ = some u := fun j u hj hu => by
    rw [Nat.add_assoc]
    exact hc _ _ ((flat_at nmc nmc_len l hkl hj).trans hu)
  exact ⟨b, o, l[k], e, hb, List.getElem?_eq_getElem hkl, got 0 _ (by omega) rfl, got 1 _ (by omega) rfl⟩
theorem Rd.fi_at {l : List Fi} (h : Rd w B 2 A n (fcs l)) (hk : k < n) :
    ∃ b o f, A = some ⟨b, o, none⟩ ∧ b < B ∧ l[k]? = some f ∧ w.cell? ⟨b, o + k * 2, none⟩ = some (.string (tx f.b)) ∧ w.cell? ⟨b, o + k * 2 + 1, none⟩ = some (.int .i64 (f.last : Int)) := by
  have hl := h.flen2
  obtain ⟨b, o, e, hb, hc⟩ := h.2 (by omega)
  have hkl : k < l.length := by omega
  have got : ∀ j u, j < 2 → (fic l[k])[j]? = some u → w.cell? ⟨b, o + k * 2 + j, none⟩ = some u := fun j u hj hu => by
    rw [Nat.add_assoc]
    exact hc _ _ ((flat_at fic fic_len l hkl hj).trans hu)
  exact ⟨b, o, l[k], e, hb, List.getElem?_eq_getElem hkl, got 0 _ (by omega) rfl, got 1 _ (by omega) rfl⟩
end
theorem tx_less (a b : List UInt8) : Op.bytesLess (tx a).toList (tx b).toList = decide (a < b) := by rw [tx_toList, tx_toList, bytesLess_eq]
/-- where a name stands -/
def ixN (l : List Nm) (s : List UInt8) : Nat := l.findIdx fun p => decide (p.1 = s)
def atR (l : List Nm) (s : List UInt8) : Int := if ixN l s < l.length then (ixN l s : Int) else -1
/-- where a name would stand -/
def kN (l : List Nm) (s : List UInt8) : Nat := l.findIdx fun p => !decide (p.1 < s)
def kN1 (l : List Nm) (s : List UInt8) : Nat := if (l[kN l s]?).map (·.1) = some s then kN l s + 1 else kN l s
def withR (l : List Nm) (s : List UInt8) (f : Nat) : List Nm := l.take (kN l s) ++ ([(s, f)] ++ l.drop (kN1 l s))
def withoutR (l : List Nm) (s : List UInt8) : List Nm := if ixN l s < l.length then l.take (ixN l s) ++ l.drop (ixN l s + 1) else l
theorem findIdx_hit {α : Type} {p : α → Bool} {l : List α} {k : Nat} {x : α} (hx : l[k]? = some x) (h1 : ∀ j (y : α), j < k → l[j]? = some y → p y = false) (h2 : p x = true) : l.findIdx p = k := by
  obtain ⟨hk, e⟩ := List.getElem?_eq_some_iff.1 hx
  rw [List.findIdx_eq hk]
  refine ⟨by rw [e]; exact h2, fun j hj => ?_⟩
  have hjl : j < l.length := by omega
  simpa using h1 j l[j] hj (List.getElem?_eq_getElem hjl)
theorem findIdx_miss {α : Type} {p : α → Bool} {l : List α} (h : ∀ j (y : α), j < l.length → l[j]? = some y → p y = false) : l.findIdx p = l.length := by
  rw [List.findIdx_eq_length]
  intro x hx
  obtain ⟨j, hj, rfl⟩ := List.getElem_of_mem hx
  exact h j _ hj (List.getElem?_eq_getElem hj)
/-- what no place below k is -/
def NoneTo {α : Type} (p : α → Bool) (l : List α) (k : Nat) : Prop := ∀ j (y : α), j < k → l[j]? = some y → p y = false
theorem NoneTo.zero {α : Type} {p : α → Bool} {l : List α} : NoneTo p l 0 := fun j y h => absurd h (Nat.not_lt_zero _)
theorem NoneTo.succ {α : Type} {p : α → Bool} {l : List α} {k : Nat} {x : α} (h : NoneTo p l k) (hx : l[k]? = some x) (hp : p x = false) : NoneTo p l (k + 1) := fun j y hj hy => by
  rcases Nat.lt_succ_iff_lt_or_eq.1 hj with h1 | h1
  · exact h j y h1 hy
  · subst h1; rw [hx] at hy; injection hy with hy; rw [← hy]; exact hp
structure Rk where
  quota : Nat
  files : List Fi
  now : List Nm
  last : List Nm
  ops : List Tn
  calls : Nat
  left : Int
  fail : Nat
  dead : Bool
structure RkB (r : Rk) : Prop where
  nf : r.files.length ≤ 1000000
  nn : r.now.length ≤ 1000000
  nl : r.last.length ≤ 1000000
  no : r.ops.length ≤ 1000000
  fb : ∀ f ∈ r.files, f.b.length ≤ 250000 ∧ f.last ≤ f.b.length
  now : ∀ p ∈ r.now, p.2 < r.files.length
  q : r.quota ≤ 9223372036854775807
structure RkOk (r : Rk) : Prop extends RkB r where
  c : r.calls ≤ 1000000000
  l1 : -1 ≤ r.left
  l2 : r.left ≤ 9223372036854775807
  f : r.fail ≤ 9223372036854775807

/-! ### in memory -/
structure Rh where
  g : Nat
  fa : Option Addr
  fc : Nat
  na : Option Addr
  nc : Nat
  la : Option Addr
  lc : Nat
  oa : Option Addr
  oc : Nat
def rfoot (h : Rh) (k : Nat) : Prop := k = h.g ∨ inA h.fa k ∨ inA h.na k ∨ inA h.la k ∨ inA h.oa k
def rcs (r : Rk) (h : Rh) : Array Value := #[.int .i64 (r.quota : Int), .slice h.fa r.files.length h.fc, .slice h.na r.now.length h.nc, .slice h.la r.last.length h.lc, .slice h.oa r.ops.length h.oc, .int .i64 (r.calls : Int), .int .i64 r.left, .int .i64 (r.fail : Int), .bool r.dead]
structure RkAt (B : Nat) (h : Rh) (r : Rk) (w : World) : Prop where
  hd : w.heap[h.g]? = some (.cells (rcs r h) 92 (0, 0))
  base : B ≤ h.g
  files : w.ownsRow B 102 2 (.slice h.fa r.files.length h.fc) r.files.length (fcs r.files)
  now : w.ownsRow B 110 2 (.slice h.na r.now.length h.nc) r.now.length (ncs r.now)
  last : w.ownsRow B 110 2 (.slice h.la r.last.length h.lc) r.last.length (ncs r.last)
  ops : w.ownsRow B 105 4 (.slice h.oa r.ops.length h.oc) r.ops.length (tcs r.ops)
section
variable {B : Nat} {h h' h'' : Rh} {r r' : Rk} {w w' w'' : World} {X : Nat → Prop}
theorem RkAt.keepsX (H : RkAt B h r w) (hK : Rg.Keeps X w w') (hx : ∀ k, rfoot h k → ¬ X k) : RkAt B h r w' where
  hd := (hK.block _ (Array.getElem?_eq_some_iff.1 H.hd).1 (hx _ (.inl rfl))).trans H.hd
  base := H.base
  files := own_keepsX H.files hK (fun k hk => hx k (.inr (.inl hk)))
  now := own_keepsX H.now hK (fun k hk => hx k (.inr (.inr (.inl hk))))
  last := own_keepsX H.last hK (fun k hk => hx k (.inr (.inr (.inr (.inl hk)))))
  ops := own_keepsX H.ops hK (fun k hk => hx k (.inr (.inr (.inr (.inr hk)))))
theorem RkAt.lt (H : RkAt B h r w) {k : Nat} (hk : rfoot h k) : B ≤ k ∧ k < w.heap.size := by
  rcases hk with rfl | hk | hk | hk | hk
  · exact ⟨H.base, (Array.getElem?_eq_some_iff.1 H.hd).1⟩
  · exact inA_own H.files hk
  · exact inA_own H.now hk
  · exact inA_own H.last hk
  · exact inA_own H.ops hk
theorem RkAt.up (H : RkAt B h r w) (hu : Up w w') : RkAt B h r w' :=
  H.keepsX (X := fun k => ¬ k < w.heap.size) ⟨hu.os, hu.tape, hu.output, hu.size, fun k hk _ => hu.block k hk⟩ (fun k hk hn => hn (H.lt hk).2)
/-- what an operation of the disk does to memory -/
structure RkTo (h : Rh) (w : World) (h' : Rh) (w' : World) : Prop where
  g : h'.g = h.g
  kept : Rg.Keeps (rfoot h) w w'
  foot : ∀ k, rfoot h' k → rfoot h k ∨ w.heap.size ≤ k
theorem RkTo.refl (h : Rh) (w : World) : RkTo h w h w := ⟨rfl, Rg.Keeps.refl _ _, fun k hk => .inl hk⟩
theorem RkTo.trans (x : RkTo h w h' w') (y : RkTo h' w' h'' w'') : RkTo h w h'' w'' := by
  refine ⟨y.g.trans x.g, ⟨y.kept.os.trans x.kept.os, y.kept.tape.trans x.kept.tape, y.kept.output.trans x.kept.output, Nat.le_trans x.kept.size y.kept.size, fun i hi hx => ?_⟩, fun k hk => ?_⟩
  · refine (y.kept.block i (Nat.lt_of_lt_of_le hi x.kept.size) (fun hf => ?_)).trans (x.kept.block i hi hx)
    rcases x.foot i hf with h1 | h1
    · exact hx h1
    · omega
  · rcases y.foot k hk with h1 | h1
    · exact x.foot k h1
    · exact .inr (Nat.le_trans x.kept.size h1)
theorem RkTo.up (hu : Up w w') : RkTo h w h w' := ⟨rfl, Rg.Keeps.of_up hu, fun k hk => .inl hk⟩
theorem RkTo.below {w0 : World} (x : RkTo h w h' w') (H : RkAt B h r w) (hB : w0.heap.size ≤ B) (hu : Up w0 w) : Up w0 w' :=
  ⟨x.kept.os.trans hu.os, x.kept.tape.trans hu.tape, x.kept.output.trans hu.output, Nat.le_trans hu.size x.kept.size, fun k hk => (x.kept.block k (Nat.lt_of_lt_of_le hk hu.size) (fun hf => by have := (H.lt hf).1; omega)).trans (hu.block k hk)⟩
/-- what the head's change leaves -/
theorem RkAt.gne (H : RkAt B h r w) : (∀ k, inA h.fa k → k ≠ h.g) ∧ (∀ k, inA h.na k → k ≠ h.g) ∧ (∀ k, inA h.la k → k ≠ h.g) ∧ (∀ k, inA h.oa k → k ≠ h.g) := by
  have key : ∀ {e : TypeId} {sz n c : Nat} {A : Option Addr} {xs : List Value}, w.ownsRow B e sz (.slice A n c) n xs → e ≠ 92 → ∀ k, inA A k → k ≠ h.g := by
    intro e sz n c A xs ho hne k hk e9
    have h1 := kd_row ho hk
    rw [e9, kd_cells H.hd] at h1
    injection h1 with h1
    injection h1 with h1
    exact hne h1.symm
  exact ⟨key H.files (by decide), key H.now (by decide), key H.last (by decide), key H.ops (by decide)⟩
/-- one cell of the head has turned, and no row -/
theorem RkAt.setHead (r' : Rk) (H : RkAt B h r w) (i : Nat) (v : Value) (hv : (rcs r h).setIfInBounds i v = rcs r' h) (e1 : r'.files = r.files) (e2 : r'.now = r.now) (e3 : r'.last = r.last) (e4 : r'.ops = r.ops) :
    RkAt B h r' (w.setCell ⟨h.g, i, none⟩ v) ∧ RkTo h w h (w.setCell ⟨h.g, i, none⟩ v) := by
  have hK : Rg.Keeps (fun k => k = h.g) w (w.setCell ⟨h.g, i, none⟩ v) := setc_keeps _ _ _ _ _ (Rg.Keeps.refl _ _)
  obtain ⟨g1, g2, g3, g4⟩ := H.gne
  refine ⟨⟨by rw [setc_heap w h.g i v _ _ H.hd, hv], H.base, by rw [e1]; exact own_keepsX H.files hK g1, by rw [e2]; exact own_keepsX H.now hK g2, by rw [e3]; exact own_keepsX H.last hK g3, by rw [e4]; exact own_keepsX H.ops hK g4⟩, rfl, Keeps.weak hK (fun k hk => .inl hk), fun k hk => .inl hk⟩
/-- a new row for names of now -/
theorem RkAt.setNow (H : RkAt B h r w) {A : Option Addr} {c : Nat} (l : List Nm) (ho : w.ownsRow B 110 2 (.slice A l.length c) l.length (ncs l)) {m : Nat} (hat : ∀ k, inA A k → rfoot h k ∨ m ≤ k) (w0 : World) (hm : w0.heap.size ≤ m) (hu : Up w0 w) :
    RkAt B { h with na := A, nc := c } { r with now := l } (w.setCell ⟨h.g, 2, none⟩ (.slice A l.length c)) ∧ RkTo h w0 { h with na := A, nc := c } (w.setCell ⟨h.g, 2, none⟩ (.slice A l.length c)) := by
  have hK : Rg.Keeps (fun k => k = h.g) w (w.setCell ⟨h.g, 2, none⟩ (.slice A l.length c)) := setc_keeps _ _ _ _ _ (Rg.Keeps.refl _ _)
  obtain ⟨g1, g2, g3, g4⟩ := H.gne
  have g5 : ∀ k, inA A k → k ≠ h.g := fun k hk e9 => by
    have h1 := kd_row ho hk
    rw [e9, kd_cells H.hd] at h1
    exact absurd h1 (by decide)
  refine ⟨⟨by rw [setc_heap w h.g 2 _ _ _ H.hd]; simp [rcs], H.base, own_keepsX H.files hK g1, own_keepsX ho hK g5, own_keepsX H.last hK g3, own_keepsX H.ops hK g4⟩, rfl, Keeps.trans2 (Rg.Keeps.of_up hu) (Keeps.weak hK (fun k hk => .inl hk)), fun k hk => ?_⟩
  rcases hk with hk | hk | hk | hk | hk
  · exact .inl (.inl hk)
  · exact .inl (.inr (.inl hk))
  · exact (hat k hk).imp id (fun h9 => Nat.le_trans hm h9)
  · exact .inl (.inr (.inr (.inr (.inl hk))))
  · exact .inl (.inr (.inr (.inr (.inr hk))))
/-- a new row for the names that last -/
theorem RkAt.setLast (H : RkAt B h r w) {A : Option Addr} {c : Nat} (l : List Nm) (ho : w.ownsRow B 110 2 (.slice A l.length c) l.length (ncs l)) {m : Nat} (hat : ∀ k, inA A k → rfoot h k ∨ m ≤ k) (w0 : World) (hm : w0.heap.size ≤ m) (hu : Up w0 w) :
    RkAt B { h with la := A, lc := c } { r with last := l } (w.setCell ⟨h.g, 3, none⟩ (.slice A l.length c)) ∧ RkTo h w0 { h with la := A, lc := c } (w.setCell ⟨h.g, 3, none⟩ (.slice A l.length c)) := by
  have hK : Rg.Keeps (fun k => k = h.g) w (w.setCell ⟨h.g, 3, none⟩ (.slice A l.length c)) := setc_keeps _ _ _ _ _ (Rg.Keeps.refl _ _)
  obtain ⟨g1, g2, g3, g4⟩ := H.gne
  have g5 : ∀ k, inA A k → k ≠ h.g := fun k hk e9 => by
    have h1 := kd_row ho hk
    rw [e9, kd_cells H.hd] at h1
    exact absurd h1 (by decide)
  refine ⟨⟨by rw [setc_heap w h.g 3 _ _ _ H.hd]; simp [rcs], H.base, own_keepsX H.files hK g1, own_keepsX H.now hK g2, own_keepsX ho hK g5, own_keepsX H.ops hK g4⟩, rfl, Keeps.trans2 (Rg.Keeps.of_up hu) (Keeps.weak hK (fun k hk => .inl hk)), fun k hk => ?_⟩
  rcases hk with hk | hk | hk | hk | hk
  · exact .inl (.inl hk)
  · exact .inl (.inr (.inl hk))
  · exact .inl (.inr (.inr (.inl hk)))
  · exact (hat k hk).imp id (fun h9 => Nat.le_trans hm h9)
  · exact .inl (.inr (.inr (.inr (.inr hk))))
/-- what was done has grown, or is nothing: w the world in which the row was written, w1 the one ahead -/
theorem RkAt.setOps (H : RkAt B h r w) {A : Option Addr} {c : Nat} (l : List Tn) (ho : w'.ownsRow B 105 4 (.slice A l.length c) l.length (tcs l)) (hK1 : Rg.Keeps (fun k => inA h.oa k) w w') {m : Nat} (hat : ∀ k, inA A k → rfoot h k ∨ m ≤ k) (w0 : World) (hm : w0.heap.size ≤ m) (hu : Up w0 w) :
    RkAt B { h with oa := A, oc := c } { r with ops := l } (w'.setCell ⟨h.g, 4, none⟩ (.slice A l.length c)) ∧ RkTo h w0 { h with oa := A, oc := c } (w'.setCell ⟨h.g, 4, none⟩ (.slice A l.length c)) := by
  have hK2 : Rg.Keeps (fun k => k = h.g) w' (w'.setCell ⟨h.g, 4, none⟩ (.slice A l.length c)) := setc_keeps _ _ _ _ _ (Rg.Keeps.refl _ _)
  have hx : ∀ k, inA h.oa k → kd w k = some (some 105) := fun k hk => kd_row H.ops hk
  have hd' : w'.heap[h.g]? = some (.cells (rcs r h) 92 (0, 0)) := (hK1.block _ (Array.getElem?_eq_some_iff.1 H.hd).1 (fun hX => by
    have h1 := hx _ hX
    rw [kd_cells H.hd] at h1
    exact absurd h1 (by decide))).trans H.hd
  have hf := own_keepsX H.files hK1 (fun k hk hX => by have h1 := hx _ hX; rw [kd_row H.files hk] at h1; exact absurd h1 (by decide))
  have hn := own_keepsX H.now hK1 (fun k hk hX => by have h1 := hx _ hX; rw [kd_row H.now hk] at h1; exact absurd h1 (by decide))
  have hl := own_keepsX H.last hK1 (fun k hk hX => by have h1 := hx _ hX; rw [kd_row H.last hk] at h1; exact absurd h1 (by decide))
  obtain ⟨g1, g2, g3, g4⟩ := H.gne
  have g5 : ∀ k, inA A k → k ≠ h.g := fun k hk e9 => by
    have h1 := kd_row ho hk
    rw [e9, kd_cells hd'] at h1
    exact absurd h1 (by decide)
  refine ⟨⟨by rw [setc_heap w' h.g 4 _ _ _ hd']; simp [rcs], H.base, own_keepsX hf hK2 g1, own_keepsX hn hK2 g2, own_keepsX hl hK2 g3, own_keepsX ho hK2 g5⟩, rfl, Keeps.trans2 (Rg.Keeps.of_up hu) (Keeps.trans2 (Keeps.weak hK1 (fun k hk => .inr (.inr (.inr (.inr hk))))) (Keeps.weak hK2 (fun k hk => .inl hk))), fun k hk => ?_⟩
  rcases hk with hk | hk | hk | hk | hk
  · exact .inl (.inl hk)
  · exact .inl (.inr (.inl hk))
  · exact .inl (.inr (.inr (.inl hk)))
  · exact .inl (.inr (.inr (.inr (.inl hk))))
  · exact (hat k hk).imp id (fun h9 => Nat.le_trans hm h9)
/-- the files have grown -/
theorem RkAt.setFiles (H : RkAt B h r w) {A : Option Addr} {c : Nat} (l : List Fi) (ho : w'.ownsRow B 102 2 (.slice A l.length c) l.length (fcs l)) (hK1 : Rg.Keeps (fun k => inA h.fa k) w w') {m : Nat} (hat : ∀ k, inA A k → rfoot h k ∨ m ≤ k) (w0 : World) (hm : w0.heap.size ≤ m) (hu : Up w0 w) :
    RkAt B { h with fa := A, fc := c } { r with files := l } (w'.setCell ⟨h.g, 1, none⟩ (.slice A l.length c)) ∧ RkTo h w0 { h with fa := A, fc := c } (w'.setCell ⟨h.g, 1, none⟩ (.slice A l.length c)) := by
  have hK2 : Rg.Keeps (fun k => k = h.g) w' (w'.setCell ⟨h.g, 1, none⟩ (.slice A l.length c)) := setc_keeps _ _ _ _ _ (Rg.Keeps.refl _ _)
  have hx : ∀ k, inA h.fa k → kd w k = some (some 102) := fun k hk => kd_row H.files hk
  have hd' : w'.heap[h.g]? = some (.cells (rcs r h) 92 (0, 0)) := (hK1.block _ (Array.getElem?_eq_some_iff.1 H.hd).1 (fun hX => by
    have h1 := hx _ hX
    rw [kd_cells H.hd] at h1
    exact absurd h1 (by decide))).trans H.hd
  have hf := own_keepsX H.ops hK1 (fun k hk hX => by have h1 := hx _ hX; rw [kd_row H.ops hk] at h1; exact absurd h1 (by decide))
  have hn := own_keepsX H.now hK1 (fun k hk hX => by have h1 := hx _ hX; rw [kd_row H.now hk] at h1; exact absurd h1 (by decide))
  have hl := own_keepsX H.last hK1 (fun k hk hX => by have h1 := hx _ hX; rw [kd_row H.last hk] at h1; exact absurd h1 (by decide))
  obtain ⟨g1, g2, g3, g4⟩ := H.gne
  have g5 : ∀ k, inA A k → k ≠ h.g := fun k hk e9 => by
    have h1 := kd_row ho hk
    rw [e9, kd_cells hd'] at h1
    exact absurd h1 (by decide)
  refine ⟨⟨by rw [setc_heap w' h.g 1 _ _ _ hd']; simp [rcs], H.base, own_keepsX ho hK2 g5, own_keepsX hn hK2 g2, own_keepsX hl hK2 g3, own_keepsX hf hK2 g4⟩, rfl, Keeps.trans2 (Rg.Keeps.of_up hu) (Keeps.trans2 (Keeps.weak hK1 (fun k hk => .inr (.inl hk))) (Keeps.weak hK2 (fun k hk => .inl hk))), fun k hk => ?_⟩
  rcases hk with hk | hk | hk | hk | hk
  · exact .inl (.inl hk)
  · exact (hat k hk).imp id (fun h9 => Nat.le_trans hm h9)
  · exact .inl (.inr (.inr (.inl hk)))
  · exact .inl (.inr (.inr (.inr (.inl hk))))
  · exact .inl (.inr (.inr (.inr (.inr hk))))
theorem own_setcF {w : World} {base g n c sz j : Nat} {e : TypeId} {xs : List Value} (h : w.ownsRow base e sz (.slice (some ⟨g, 0, none⟩) n c) n xs) (u : Value) : (w.setCell ⟨g, j, none⟩ u).ownsRow base e sz (.slice (some ⟨g, 0, none⟩) n c) n (xs.set j u) := by
  refine ⟨by rw [List.length_set]; exact h.1, ?_⟩
  rcases h.2 with ⟨hv, _⟩ | ⟨g', cap, cur, hv, hb, hh, h1, h2, h3, h4⟩
  · cases hv
  · injection hv with hA _ hc
    injection hA with hA
    injection hA with hg _
    subst hg; subst hc
    refine .inr ⟨g, c, cur.setIfInBounds j u, rfl, hb, setc_heap w g j u cur e hh, h1, h2, by simp; exact h3, ?_⟩
    rw [Array.toList_setIfInBounds, List.take_set, h4]
theorem fcs_set (x : Fi) (j : Nat) (u : Value) (hj : j < 2) : ∀ (l : List Fi) (i : Nat) (y : Fi), l[i]? = some y → fic x = (fic y).set j u → fcs (l.set i x) = (fcs l).set (i * 2 + j) u
  | [], i, y, h, _ => by simp at h
  | z :: l, 0, y, h, e => by
    simp only [List.getElem?_cons_zero, Option.some.injEq] at h
    subst h
    have e1 : fcs ((z :: l).set 0 x) = fic x ++ fcs l := by simp [fcs]
    have e2 : fcs (z :: l) = fic z ++ fcs l := by simp [fcs]
    rw [e1, e2, e, Nat.zero_mul, Nat.zero_add, List.set_append_left _ _ (by rw [fic_len]; exact hj)]
  | z :: l, i + 1, y, h, e => by
    have ih := fcs_set x j u hj l i y (by simpa using h) e
    have e1 : fcs ((z :: l).set (i + 1) x) = fic z ++ fcs (l.set i x) := by simp [fcs]
    have e2 : fcs (z :: l) = fic z ++ fcs l := by simp [fcs]
    rw [e1, e2, ih, List.set_append_right _ _ (by rw [fic_len]; omega), fic_len, show (i + 1) * 2 + j - 2 = i * 2 + j by omega]
/-- a cell of a file has turned -/
theorem RkAt.setFi (H : RkAt B h r w) {g i j : Nat} {u : Value} {y : Fi} (hg : h.fa = some ⟨g, 0, none⟩) (hy : r.files[i]? = some y) (hj : j < 2) (x : Fi) (hx : fic x = (fic y).set j u) :
    RkAt B h { r with files := r.files.set i x } (w.setCell ⟨g, i * 2 + j, none⟩ u) ∧ RkTo h w h (w.setCell ⟨g, i * 2 + j, none⟩ u) := by
  have hK : Rg.Keeps (fun k => k = g) w (w.setCell ⟨g, i * 2 + j, none⟩ u) := setc_keeps _ _ _ _ _ (Rg.Keeps.refl _ _)
  have hgk : kd w g = some (some 102) := kd_row H.files ⟨_, hg, rfl⟩
  have hfs := H.files
  rw [hg] at hfs
  have h2 := own_setcF (j := i * 2 + j) hfs u
  rw [← fcs_set x j u hj r.files i y hy hx] at h2
  have ne : ∀ {e : TypeId} {sz n c : Nat} {A : Option Addr} {xs : List Value}, w.ownsRow B e sz (.slice A n c) n xs → e ≠ 102 → ∀ k, inA A k → ¬ k = g := by
    intro e sz n c A xs ho hne k hk e9
    have h1 := kd_row ho hk
    rw [e9, hgk] at h1
    injection h1 with h1
    injection h1 with h1
    exact hne h1.symm
  have hlen : (r.files.set i x).length = r.files.length := List.length_set
  refine ⟨⟨?_, H.base, ?_, own_keepsX H.now hK (ne H.now (by decide)), own_keepsX H.last hK (ne H.last (by decide)), own_keepsX H.ops hK (ne H.ops (by decide))⟩, rfl, Keeps.weak hK (fun k hk => .inr (.inl ⟨_, hg, hk.symm⟩)), fun k hk => .inl hk⟩
  · have e : rcs { r with files := r.files.set i x } h = rcs r h := by simp [rcs]
    rw [e]
    refine (hK.block _ (Array.getElem?_eq_some_iff.1 H.hd).1 (fun e9 => ?_)).trans H.hd
    rw [← e9, kd_cells H.hd] at hgk
    exact absurd hgk (by decide)
  · show World.ownsRow _ B _ 2 (.slice h.fa (r.files.set i x).length h.fc) (r.files.set i x).length _
    rw [hlen, hg]
    exact h2
/-- the way from a name to its file -/
theorem RkAt.file_ptr (H : RkAt B h r w) (hb : RkB r) {k : Nat} (hk : k < r.now.length) : ∃ b o g p f, h.na = some ⟨b, o, none⟩ ∧ h.fa = some ⟨g, 0, none⟩ ∧ r.now[k]? = some p ∧ r.files[p.2]? = some f ∧ p.2 < r.files.length ∧
    (∀ W, Up w W → W.cell? ⟨h.g, 1, none⟩ = some (.slice (some ⟨g, 0, none⟩) r.files.length h.fc)) ∧ (∀ W, Up w W → W.cell? ⟨h.g, 2, none⟩ = some (.slice (some ⟨b, o, none⟩) r.now.length h.nc)) ∧
    (∀ W, Up w W → W.cell? ⟨b, o + k * 2 + 1, none⟩ = some (.int .i64 (p.2 : Int))) ∧ (∀ W, Up w W → W.cell? ⟨g, p.2 * 2, none⟩ = some (.string (tx f.b))) ∧ (∀ W, Up w W → W.cell? ⟨g, p.2 * 2 + 1, none⟩ = some (.int .i64 (f.last : Int))) := by
  obtain ⟨b, o, p, hna, hbb, hp, n0, n1⟩ := (Rd.own H.now).name_at hk
  have hpf := hb.now p (List.mem_of_getElem? hp)
  obtain ⟨b2, o2, f, hfa, hbb2, hf, f0, f1⟩ := (Rd.own H.files).fi_at hpf
  obtain ⟨g, hg, _, _⟩ := own_some H.files (by omega)
  rw [hg] at hfa
  injection hfa with hfa
  injection hfa with e1 e2
  subst e1; subst e2
  rw [Nat.zero_add] at f0 f1
  refine ⟨b, o, g, p, f, hna, hg, hp, hf, hpf, fun W hU => ?_, fun W hU => ?_, fun W hU => (hU.cell (p := ⟨b, o + k * 2 + 1, none⟩) hbb).trans n1, fun W hU => (hU.cell (p := ⟨g, p.2 * 2, none⟩) hbb2).trans f0, fun W hU => (hU.cell (p := ⟨g, p.2 * 2 + 1, none⟩) hbb2).trans f1⟩
  · have h9 := blk_cell (H.up hU).hd 1
    rw [← hg]; exact h9
  · have h9 := blk_cell (H.up hU).hd 2
    rw [← hna]; exact h9
theorem RkAt.fz (H : RkAt B h r w) {g j : Nat} (hg : h.fa = some ⟨g, 0, none⟩) : w.frozen? ⟨g, j, none⟩ = false := by
  have hfs := H.files
  rw [hg] at hfs
  exact World.ownsRow.frozenAt hfs j
theorem RkAt.opsHd (H : RkAt B h r w) (hK : Rg.Keeps (fun k => inA h.oa k) w w') : w'.heap[h.g]? = some (.cells (rcs r h) 92 (0, 0)) :=
  (hK.block _ (Array.getElem?_eq_some_iff.1 H.hd).1 (fun hX => by
    have h1 := kd_row H.ops hX
    rw [kd_cells H.hd] at h1
    exact absurd h1 (by decide))).trans H.hd
theorem RkAt.filesHd (H : RkAt B h r w) (hK : Rg.Keeps (fun k => inA h.fa k) w w') : w'.heap[h.g]? = some (.cells (rcs r h) 92 (0, 0)) :=
  (hK.block _ (Array.getElem?_eq_some_iff.1 H.hd).1 (fun hX => by
    have h1 := kd_row H.files hX
    rw [kd_cells H.hd] at h1
    exact absurd h1 (by decide))).trans H.hd
theorem RkAt.opsStep (H : RkAt B h r w) {o : Obj} (hg : (w.alloc o).grownBy w' (Value.slice h.oa r.ops.length h.oc).ownBlock) : Rg.Keeps (fun k => inA h.oa k) (w.alloc o) w' ∧ RkAt B h r (w.alloc o) ∧ Up w (w.alloc o) ∧ w'.heap[h.g]? = some (.cells (rcs r h) 92 (0, 0)) := by
  have hu : Up w (w.alloc o) := (Up.refl w).alloc o
  have H2 := H.up hu
  have hK := keepsRow H2.ops hg
  exact ⟨hK, H2, hu, H2.opsHd hK⟩
theorem RkAt.filesStep (H : RkAt B h r w) {o : Obj} (hg : (w.alloc o).grownBy w' (Value.slice h.fa r.files.length h.fc).ownBlock) : Rg.Keeps (fun k => inA h.fa k) (w.alloc o) w' ∧ RkAt B h r (w.alloc o) ∧ Up w (w.alloc o) ∧ w'.heap[h.g]? = some (.cells (rcs r h) 92 (0, 0)) := by
  have hu : Up w (w.alloc o) := (Up.refl w).alloc o
  have H2 := H.up hu
  have hK := keepsRow H2.files hg
  exact ⟨hK, H2, hu, H2.filesHd hK⟩
/-- a new row for names of now: told of the world behind all -/
theorem RkAt.setNowF (H : RkAt B h r w) {A : Option Addr} {c m0 : Nat} (l : List Nm) (hg2 : w'.heap[h.g]? = some (.cells (rcs { r with now := l } { h with na := A, nc := c }) 92 (0, 0))) (ho : w'.ownsRow B 110 2 (.slice A l.length c) l.length (ncs l)) (hK : Rg.Keeps (fun k => k = h.g) w w') (hm0 : m0 ≤ w.heap.size) (hat : ∀ k, inA A k → rfoot h k ∨ w.heap.size ≤ k) :
    RkAt B { h with na := A, nc := c } { r with now := l } w' ∧ RkTo h w { h with na := A, nc := c } w' := by
  obtain ⟨g1, g2, g3, g4⟩ := H.gne
  refine ⟨⟨hg2, H.base, own_keepsX H.files hK g1, ho, own_keepsX H.last hK g3, own_keepsX H.ops hK g4⟩, rfl, Keeps.weak hK (fun k hk => .inl hk), fun k hk => ?_⟩
  rcases hk with hk | hk | hk | hk | hk
  · exact .inl (.inl hk)
  · exact .inl (.inr (.inl hk))
  · exact hat k hk
  · exact .inl (.inr (.inr (.inr (.inl hk))))
  · exact .inl (.inr (.inr (.inr (.inr hk))))
/-- what was done has grown: told of the world behind all -/
theorem RkAt.setOpsF (H : RkAt B h r w) {A : Option Addr} {c : Nat} (l : List Tn) (hg2 : w'.heap[h.g]? = some (.cells (rcs { r with ops := l } { h with oa := A, oc := c }) 92 (0, 0))) (ho : w'.ownsRow B 105 4 (.slice A l.length c) l.length (tcs l)) (hK : Rg.Keeps (fun k => k = h.g ∨ inA h.oa k) w w') (hat : ∀ k, inA A k → rfoot h k ∨ w.heap.size ≤ k) :
    RkAt B { h with oa := A, oc := c } { r with ops := l } w' ∧ RkTo h w { h with oa := A, oc := c } w' := by
  have hx : ∀ k, (k = h.g ∨ inA h.oa k) → kd w k = some (some 92) ∨ kd w k = some (some 105) := by
    rintro k (rfl | hk)
    · exact .inl (kd_cells H.hd)
    · exact .inr (kd_row H.ops hk)
  have key : ∀ {e : TypeId} {sz n c : Nat} {A : Option Addr} {xs : List Value}, w.ownsRow B e sz (.slice A n c) n xs → e ≠ 92 → e ≠ 105 → ∀ k, inA A k → ¬ (k = h.g ∨ inA h.oa k) := by
    intro e sz n c A xs ho h1 h2 k hk hX
    have h3 := kd_row ho hk
    rcases hx k hX with e9 | e9 <;> rw [e9] at h3 <;> injection h3 with h3 <;> injection h3 with h3
    · exact h1 h3.symm
    · exact h2 h3.symm
  refine ⟨⟨hg2, H.base, own_keepsX H.files hK (key H.files (by decide) (by decide)), own_keepsX H.now hK (key H.now (by decide) (by decide)), own_keepsX H.last hK (key H.last (by decide) (by decide)), ho⟩, rfl, Keeps.weak hK (fun k hk => hk.elim .inl (fun h9 => .inr (.inr (.inr (.inr h9))))), fun k hk => ?_⟩
  rcases hk with hk | hk | hk | hk | hk
  · exact .inl (.inl hk)
  · exact .inl (.inr (.inl hk))
  · exact .inl (.inr (.inr (.inl hk)))
  · exact .inl (.inr (.inr (.inr (.inl hk))))
  · exact hat k hk
/-- the block of the files, and what a change of one file's bytes makes of the disk -/
theorem RkAt.fblk (H : RkAt B h r w) {g i : Nat} {y : Fi} (hg : h.fa = some ⟨g, 0, none⟩) (hy : r.files[i]? = some y) : ∃ cur : Array Value, w.heap[g]? = some (.cells cur 102 (0, 0)) ∧ cur[i * 2]? = some (.string (tx y.b)) ∧ cur[i * 2 + 1]? = some (.int .i64 (y.last : Int)) ∧
    ∀ (w' : World) (u : List UInt8), Rg.Keeps (fun k => k = g) w w' → w'.heap[g]? = some (.cells (cur.setIfInBounds (i * 2) (.string (tx u))) 102 (0, 0)) → RkAt B h { r with files := r.files.set i ⟨u, y.last⟩ } w' ∧ RkTo h w h w' := by
  have hfs := H.files
  rw [hg] at hfs
  have hgk : kd w g = some (some 102) := kd_row H.files ⟨_, hg, rfl⟩
  rcases hfs.2 with ⟨hv, _⟩ | ⟨g', cap, cur, hv, hb, hh, h1, h2, h3, h4⟩
  · cases hv
  · injection hv with hA _ hc
    injection hA with hA
    injection hA with hg' _
    subst hg'; subst hc
    have hil : i < r.files.length := (List.getElem?_eq_some_iff.1 hy).1
    have cell : ∀ j v, j < 2 → (fic y)[j]? = some v → cur[i * 2 + j]? = some v := fun j v hj hv => by
      have h5 : (fcs r.files)[i * 2 + j]? = some v := by
        have h6 := flat_at fic fic_len r.files hil hj
        rw [← (List.getElem?_eq_some_iff.1 hy).2] at hv
        exact h6.trans hv
      rw [← h4] at h5
      rw [List.getElem?_take] at h5
      split at h5
      · rw [← Array.getElem?_toList]; exact h5
      · cases h5
    refine ⟨cur, hh, cell 0 _ (by omega) rfl, cell 1 _ (by omega) rfl, fun w' u hK hw' => ?_⟩
    have ne : ∀ {e : TypeId} {sz n c : Nat} {A : Option Addr} {xs : List Value}, w.ownsRow B e sz (.slice A n c) n xs → e ≠ 102 → ∀ k, inA A k → ¬ k = g := by
      intro e sz n c A xs ho hne k hk e9
      have h1 := kd_row ho hk
      rw [e9, hgk] at h1
      injection h1 with h1
      injection h1 with h1
      exact hne h1.symm
    have hlen : (r.files.set i (⟨u, y.last⟩ : Fi)).length = r.files.length := List.length_set
    refine ⟨⟨?_, H.base, ?_, own_keepsX H.now hK (ne H.now (by decide)), own_keepsX H.last hK (ne H.last (by decide)), own_keepsX H.ops hK (ne H.ops (by decide))⟩, rfl, Keeps.weak hK (fun k hk => .inr (.inl ⟨_, hg, hk.symm⟩)), fun k hk => .inl hk⟩
    · have e : rcs { r with files := r.files.set i ⟨u, y.last⟩ } h = rcs r h := by simp [rcs]
      rw [e]
      refine (hK.block _ (Array.getElem?_eq_some_iff.1 H.hd).1 (fun e9 => ?_)).trans H.hd
      rw [← e9, kd_cells H.hd] at hgk
      exact absurd hgk (by decide)
    · show World.ownsRow _ B _ 2 (.slice h.fa (r.files.set i (⟨u, y.last⟩ : Fi)).length h.fc) (r.files.set i (⟨u, y.last⟩ : Fi)).length _
      rw [hlen, hg]
      refine ⟨by rw [fcs_len, hlen], .inr ⟨g, h.fc, cur.setIfInBounds (i * 2) (.string (tx u)), rfl, hb, hw', h1, h2, by simp; exact h3, ?_⟩⟩
      have h9 := fcs_set (⟨u, y.last⟩ : Fi) 0 (.string (tx u)) (by omega) r.files i y hy rfl
      rw [Nat.add_zero] at h9
      rw [Array.toList_setIfInBounds, List.take_set, h4, h9]
theorem RkAt.nowX (H : RkAt B h r w) {A : Option Addr} {c : Nat} (l : List Nm) (ho : w.ownsRow B 110 2 (.slice A l.length c) l.length (ncs l)) :
    RkAt B { h with na := A, nc := c } { r with now := l } (w.setCell ⟨h.g, 2, none⟩ (.slice A l.length c)) ∧ (w.setCell ⟨h.g, 2, none⟩ (.slice A l.length c)).ownsRow B 110 2 (.slice A l.length c) l.length (ncs l) := by
  have hK : Rg.Keeps (fun k => k = h.g) w (w.setCell ⟨h.g, 2, none⟩ (.slice A l.length c)) := setc_keeps _ _ _ _ _ (Rg.Keeps.refl _ _)
  obtain ⟨g1, g2, g3, g4⟩ := H.gne
  have g5 : ∀ k, inA A k → k ≠ h.g := fun k hk e9 => by
    have h1 := kd_row ho hk
    rw [e9, kd_cells H.hd] at h1
    exact absurd h1 (by decide)
  have ho2 := own_keepsX ho hK g5
  exact ⟨⟨by rw [setc_heap w h.g 2 _ _ _ H.hd]; simp [rcs], H.base, own_keepsX H.files hK g1, ho2, own_keepsX H.last hK g3, own_keepsX H.ops hK g4⟩, ho2⟩
theorem RkAt.lastX (H : RkAt B h r w) {A : Option Addr} {c : Nat} (l : List Nm) (ho : w.ownsRow B 110 2 (.slice A l.length c) l.length (ncs l)) :
    RkAt B { h with la := A, lc := c } { r with last := l } (w.setCell ⟨h.g, 3, none⟩ (.slice A l.length c)) := by
  have hK : Rg.Keeps (fun k => k = h.g) w (w.setCell ⟨h.g, 3, none⟩ (.slice A l.length c)) := setc_keeps _ _ _ _ _ (Rg.Keeps.refl _ _)
  obtain ⟨g1, g2, g3, g4⟩ := H.gne
  have g5 : ∀ k, inA A k → k ≠ h.g := fun k hk e9 => by
    have h1 := kd_row ho hk
    rw [e9, kd_cells H.hd] at h1
    exact absurd h1 (by decide)
  exact ⟨by rw [setc_heap w h.g 3 _ _ _ H.hd]; simp [rcs], H.base, own_keepsX H.files hK g1, own_keepsX H.now hK g2, own_keepsX ho hK g5, own_keepsX H.ops hK g4⟩
theorem RkAt.opsNil (H : RkAt B h r w) :
    RkAt B { h with oa := none, oc := 0 } { r with ops := [] } (w.setCell ⟨h.g, 4, none⟩ (.slice none 0 0)) := by
  have hK : Rg.Keeps (fun k => k = h.g) w (w.setCell ⟨h.g, 4, none⟩ (.slice none 0 0)) := setc_keeps _ _ _ _ _ (Rg.Keeps.refl _ _)
  obtain ⟨g1, g2, g3, g4⟩ := H.gne
  exact ⟨by rw [setc_heap w h.g 4 _ _ _ H.hd]; simp [rcs], H.base, own_keepsX H.files hK g1, own_keepsX H.now hK g2, own_keepsX H.last hK g3, World.ownsRow_nil _ _ _ _⟩
end
end Go.Proofs.Ytebhhfmekmpnkaa

/-
  The walks of the document's disk: New, at, with, call.
-/
namespace Go.Proofs.Ytebhhfmekmpnkaa
open Go.RowKit Go.Maps
set_option linter.unusedVariables false
set_option linter.unusedSimpArgs false

def newR (q : Int) : Rk := ⟨q.toNat, [], [], [], [], 0, -1, 0, false⟩
theorem rnamesT : SlT Try.prog 89 110 2 24 := SlT.mk' Try.underlying89 (z := .agg #[.string ByteArray.empty, .int .i64 0]) (by kernel_rfl) rfl (by decide)
theorem rfilesT : SlT Try.prog 88 102 2 24 := SlT.mk' Try.underlying88 (z := .agg #[.string ByteArray.empty, .int .i64 0]) (by kernel_rfl) rfl (by decide)
theorem ropsT : SlT Try.prog 90 105 4 48 := SlT.mk' Try.underlying90 (z := .agg #[.int .i64 0, .int .i64 0, .string ByteArray.empty, .string ByteArray.empty]) (by kernel_rfl) rfl (by decide)
set_option maxRecDepth 100000 in
theorem rnew_any (q : Int) (w : World) : Calls Try.prog 31 #[.int .i64 q] w fun e w' => ∃ h, e = .returned (.pointer (some ⟨h.g, 0, none⟩)) ∧ RkAt w.heap.size h (newR q) w' ∧ Up w w' ∧ ∀ k, rfoot h k → w.heap.size ≤ k := by
  obtain ⟨m, hm⟩ : ∃ m : Int, m = max q 0 := ⟨_, rfl⟩
  have hm2 : m = (q.toNat : Int) := by omega
  have core : ∃ h : Rh, h.g = w.heap.size ∧ RkAt w.heap.size h (newR q) (w.alloc (.cells #[.int .i64 m, .slice none 0 0, .slice none 0 0, .slice none 0 0, .slice none 0 0, .int .i64 0, .int .i64 (-1), .int .i64 0, .bool false] 92)) ∧ Up w (w.alloc (.cells #[.int .i64 m, .slice none 0 0, .slice none 0 0, .slice none 0 0, .slice none 0 0, .int .i64 0, .int .i64 (-1), .int .i64 0, .bool false] 92)) ∧ ∀ k, rfoot h k → w.heap.size ≤ k := by
    refine ⟨⟨w.heap.size, none, 0, none, 0, none, 0, none, 0⟩, rfl, ⟨?_, Nat.le_refl _, World.ownsRow_nil _ _ _ _, World.ownsRow_nil _ _ _ _, World.ownsRow_nil _ _ _ _, World.ownsRow_nil _ _ _ _⟩, (Up.refl w).alloc _, fun k hk => ?_⟩
    · have h := heap_alloc_new w (.cells #[.int .i64 m, .slice none 0 0, .slice none 0 0, .slice none 0 0, .slice none 0 0, .int .i64 0, .int .i64 (-1), .int .i64 0, .bool false] 92)
      rw [hm2] at h ⊢
      exact h
    · rcases hk with rfl | ⟨a, ha, _⟩ | ⟨a, ha, _⟩ | ⟨a, ha, _⟩ | ⟨a, ha, _⟩
      · exact Nat.le_refl _
      · cases ha
      · cases ha
      · cases ha
      · cases ha
  have HC := Lib.hid core
  have HM := Lib.hid hm
  clear core hm hm2
  by_cases hq : q < 0
  · have hm0 : m = 0 := by have := HM.out; omega
    subst hm0
    have hmx : max q 0 = 0 := by omega
    clear HM
    go_enter Try.func31, Try.ntmps31
    go_wp2_with fail
    go_ret
    obtain ⟨h, hg, H⟩ := HC.out
    exact ⟨h, by rw [hg]; rfl, H⟩
  · have hm0 : m = q := by have := HM.out; omega
    subst hm0
    have hq2 : 0 ≤ m := by omega
    have hmx : max m 0 = m := by omega
    clear HM
    go_enter Try.func31, Try.ntmps31
    go_wp2_with fail
    go_ret
    obtain ⟨h, hg, H⟩ := HC.out
    exact ⟨h, by rw [hg]; rfl, H⟩
set_option maxRecDepth 100000 in
theorem rat_any (A : Option Addr) (n c : Nat) (l : List Nm) (s : List UInt8) (w : World) (hr : Rd w w.heap.size 2 A n (ncs l)) (hn : n ≤ 4000000) :
    Calls Try.prog 62 #[.slice A n c, .string (tx s)] w fun e w' => e = .returned (.int .i64 (atR l s)) ∧ w = w' := by
  have HNL := Lib.hid hr.nlen
  go_enter Try.func62, Try.ntmps62
  go_wp2_with fail
  go_loopw [5] (fun i wr => ∃ k : Nat, i = .int .i64 (k : Int) ∧ k ≤ n ∧ wr = w ∧ Hid (NoneTo (fun p => decide (p.1 = s)) l k)) (fun i _ => n - (intOf i).toNat)
  case atStart => exact ⟨0, rfl, by omega, rfl, NoneTo.zero⟩
  case round =>
    obtain ⟨k, rfl, hk, rfl, hno⟩ := hrel
    by_cases hlt : k < n
    · obtain ⟨b, o, f, rfl, hb, hf, c0, -⟩ := hr.name_at hlt
      obtain ⟨fs, fi⟩ := f
      (try dsimp only at c0)
      have HF := Lib.hid hf
      have hlti : (k : Int) < (n : Int) := by omega
      clear hf
      by_cases hs : fs = s
      · have heq : ((tx fs).toList == (tx s).toList) = true := tx_beq hs
        have hat : atR l s = (k : Int) := by
          have h9 : ixN l s = k := findIdx_hit HF.out hno.out (by simpa using hs)
          unfold atR
          rw [h9, if_pos (by have := HNL.out; omega)]
        have HAT := Lib.hid hat
        clear hat hs
        go_wp2_with fail
        go_ret
        rw [HAT.out]
        exact ⟨rfl, rfl⟩
      · have heq : ((tx fs).toList == (tx s).toList) = false := tx_bne hs
        have hno2 : Hid (NoneTo (fun p => decide (p.1 = s)) l (k + 1)) := hno.out.succ HF.out (by simpa using hs)
        clear hs
        go_wp2_with fail
        go_roundw
        case rel => exact ⟨k + 1, by go_num, by omega, by trivial, hno2⟩
        case measure => simp [intOf]; omega
    · have hlti : ¬ (k : Int) < (n : Int) := by omega
      have hat : atR l s = -1 := by
        have h9 : ixN l s = l.length := findIdx_miss fun j y hj hy => hno.out j y (by have := HNL.out; omega) hy
        unfold atR
        rw [h9, if_neg (by omega)]
      have HAT := Lib.hid hat
      clear hat
      go_wp2_with fail
      go_ret
      rw [HAT.out]
      exact ⟨rfl, rfl⟩
theorem elem_nm : Try.prog.elem 89 = 110 := by kernel_rfl
theorem size_nm : ∀ w : World, (sizeOf 110).run Try.prog w = .ok 2 w := fun w => by
  obtain ⟨_, ⟨i, z, hi, _, hs, _⟩, _⟩ := rnamesT
  simp [sizeOf, typeInfo, hi, hs]
theorem cut_to_n (W : World) (A : Option Addr) (n c : Nat) (i : Nat) (h1 : i ≤ c) :
    (Instr.slice 89 (.slice A n c) none (some (.int .i64 (i : Int))) none).run Try.prog W = .ok (.slice A i c) W := by
  rw [run_slice_h W 89 A n c (by rw [elem_nm]; exact Try.underlying89) .i64 (i : Int) (by omega) (by omega), elem_nm, size_nm]
  have e4 : ∀ a : Addr, a.add 0 = a := fun a => by unfold Addr.add; simp
  simp [sliced, e4]
theorem cut_from_n (W : World) (A : Option Addr) (n c : Nat) (i : Nat) (h1 : i ≤ n) :
    (Instr.slice 89 (.slice A n c) (some (.int .i64 (i : Int))) none none).run Try.prog W = .ok (.slice (cutA A c i 2) (n - i) (c - i)) W := by
  rw [run_slice_l W 89 A n c (by rw [elem_nm]; exact Try.underlying89) .i64 (i : Int) (by omega) (by omega), elem_nm, size_nm]
  simp [sliced, cutA]
theorem cut_from_n1 (W : World) (A : Option Addr) (n c : Nat) (i : Nat) (h1 : i + 1 ≤ n) :
    (Instr.slice 89 (.slice A n c) (some (.int .i64 ((i : Int) + 1))) none none).run Try.prog W = .ok (.slice (cutA A c (i + 1) 2) (n - (i + 1)) (c - (i + 1))) W := by
  have h := cut_from_n W A n c (i + 1) h1
  rw [show ((i + 1 : Nat) : Int) = (i : Int) + 1 by omega] at h
  exact h
/-- what with and without answer -/
def NmPost (B : Nat) (A0 : Option Addr) (w : World) (l : List Nm) (e : Ending) (w' : World) : Prop :=
  ∃ A c, e = .returned (.slice A l.length c) ∧ w'.ownsRow B 110 2 (.slice A l.length c) l.length (ncs l) ∧ Up w w' ∧ ∀ k, inA A k → inA A0 k ∨ w.heap.size ≤ k
set_option maxRecDepth 100000 in
set_option maxHeartbeats 1600000 in
theorem with_any (A : Option Addr) (n c : Nat) (l : List Nm) (s : List UInt8) (f : Nat) (w : World) (hr : Rd w w.heap.size 2 A n (ncs l)) (hnc : n ≤ c) (hn : n ≤ 4000000) :
    Calls Try.prog 61 #[.slice A n c, .string (tx s), .int .i64 (f : Int)] w (NmPost w.heap.size none w (withR l s f)) := by
  have HNL := Lib.hid hr.nlen
  have HAB : Hid (Rd w w.heap.size 2 A n (ncs l)) := hr
  go_enter Try.func61, Try.ntmps61
  go_wp2_with fail
  go_loopw [7] (fun i wr => ∃ k : Nat, i = .int .i64 (k : Int) ∧ k ≤ n ∧ wr = w ∧ Hid (NoneTo (fun p => !decide (p.1 < s)) l k)) (fun i _ => n - (intOf i).toNat)
  case atStart => exact ⟨0, rfl, by omega, rfl, NoneTo.zero⟩
  case round =>
    obtain ⟨k, rfl, hk, rfl, hno⟩ := hrel
    by_cases hlt : k < n
    · have hr2 := hr
      obtain ⟨b, o, f', rfl, hb, hf, c0, -⟩ := hr.name_at hlt
      obtain ⟨fs, fi⟩ := f'
      (try dsimp only at c0)
      have HF := Lib.hid hf
      have hlti : (k : Int) < (n : Int) := by omega
      clear hf hr2
      by_cases hs : fs < s
      · have heq : Op.bytesLess (tx fs).toList (tx s).toList = true := by rw [tx_less]; simpa using hs
        have hno2 : Hid (NoneTo (fun p => !decide (p.1 < s)) l (k + 1)) := hno.out.succ HF.out (by simpa using hs)
        clear hs
        go_wp2_with fail
        go_roundw
        case rel => exact ⟨k + 1, by go_num, by omega, by trivial, hno2⟩
        case measure => simp [intOf]; omega
      · have heq : Op.bytesLess (tx fs).toList (tx s).toList = false := by rw [tx_less]; simpa using hs
        have hkn : kN l s = k := findIdx_hit HF.out hno.out (by simpa using hs)
        by_cases hse : fs = s
        · have heq2 : ((tx fs).toList == (tx s).toList) = true := tx_beq hse
          have hw : withR l s f = l.take k ++ ([(s, f)] ++ l.drop (k + 1)) := by
            have h9 : kN1 l s = k + 1 := by unfold kN1; rw [hkn, HF.out, if_pos (by simp [hse])]
            unfold withR
            rw [h9, hkn]
          have HW := Lib.hid hw
          have hk2 : k + 1 ≤ n := hlt
          have C2 := fun W => cut_from_n1 W (some ⟨b, o, none⟩) n c k hk2
          clear hse hkn hw hr
          have C1 := fun W => cut_to_n W (some ⟨b, o, none⟩) n c k (by omega)
          go_wp2_with (first
            | (at_builtin; refine wpList_append_rd _ rnamesT (row_new wr #[] 110 (base := (wr).heap.size) (sz := 2) (n := 0) (Nat.le_refl _) rfl (by omega)) ((HAB.out.nto hk).up ((Up.refl _).alloc _)) (ncs_one _) (by omega) (by omega) (by simp) rfl rfl rfl rfl ?_; intro v5 w5 ho5 hg5 hat5; obtain ⟨R5, rc5, rfl⟩ := own_form ho5; rw [Nat.zero_add, List.nil_append] at ho5; simp only [Nat.zero_add]; have hu5 : Up (wr) w5 := ((Up.refl (wr)).alloc _).grown hg5 (fun g hg => ((row_new (wr) #[] 110 (base := (wr).heap.size) (sz := 2) (n := 0) (Nat.le_refl _) rfl (by omega)).lt g hg).1); clear hg5 hat5)
            | (at_builtin; refine wpList_append_rd _ rnamesT (own_up ho5 ((Up.refl w5).alloc _)) (Rd.made (n := 1) w5 #[.string (tx s), .int .i64 (f : Int)] 110 rfl) (ncs_one [(s, f)]) (by omega) (by omega) (by have := hu5.size; simp; omega) rfl rfl rfl rfl ?_; intro v6 w6 ho6 hg6 hat6; obtain ⟨R6, rc6, rfl⟩ := own_form ho6; have hu6 : Up (wr) w6 := (hu5.alloc _).grown hg6 (fun g hg => (ho5.lt g hg).1); (try have c6 := (hu6.cell (p := ⟨b, o + k * 2, none⟩) hb).trans c0); clear hg6 hat6 ho5 hu5)
            | (at_builtin; refine wpList_append_rd _ rnamesT ho6 ((HAB.out.nfrom hk2 hnc).up hu6) (ncs_one _) (by omega) (by omega) (by have := hu6.size; omega) rfl rfl rfl rfl ?_; intro v7 w7 ho7 hg7 hat7; obtain ⟨R7, rc7, rfl⟩ := own_form ho7; generalize hNN : k + 1 + (n - (k + 1)) = N7 at *; have HNN := Lib.hid hNN; clear hNN; have hu7 : Up (wr) w7 := hu6.grown hg7 (fun g hg => (ho6.lt g hg).1); clear hg7 hat7 ho6 hu6))
          go_ret
          have hl7 : N7 = (withR l s f).length := by
            have := HNL.out
            rw [← HNN.out, HW.out, List.length_append, List.length_append, List.length_take, List.length_drop, List.length_singleton]
            omega
          have hcs : ncs (l.take k) ++ [Value.string (tx s), .int .i64 (f : Int)] ++ ncs (l.drop (k + 1)) = ncs (withR l s f) := by
            rw [HW.out, ncs_append, ncs_append, ← List.append_assoc]; rfl
          rw [show ncs (l.take k) ++ (#[Value.string (tx s), .int .i64 (f : Int)] : Array Value).toList ++ ncs (l.drop (k + 1)) = ncs (withR l s f) from hcs, hl7] at ho7
          rw [hl7]
          exact ⟨R7, rc7, rfl, ho7, hu7, fun k hk => .inr (inA_own ho7 hk).1⟩
        · have heq2 : ((tx fs).toList == (tx s).toList) = false := tx_bne hse
          have hw : withR l s f = l.take k ++ ([(s, f)] ++ l.drop k) := by
            have h9 : kN1 l s = k := by unfold kN1; rw [hkn, HF.out, if_neg (by simp [hse])]
            unfold withR
            rw [h9, hkn]
          have HW := Lib.hid hw
          have hk2 : k ≤ n := hk
          have C2 := fun W => cut_from_n W (some ⟨b, o, none⟩) n c k hk2
          clear hse hkn hw hr
          have C1 := fun W => cut_to_n W (some ⟨b, o, none⟩) n c k (by omega)
          go_wp2_with (first
            | (at_builtin; refine wpList_append_rd _ rnamesT (row_new wr #[] 110 (base := (wr).heap.size) (sz := 2) (n := 0) (Nat.le_refl _) rfl (by omega)) ((HAB.out.nto hk).up ((Up.refl _).alloc _)) (ncs_one _) (by omega) (by omega) (by simp) rfl rfl rfl rfl ?_; intro v5 w5 ho5 hg5 hat5; obtain ⟨R5, rc5, rfl⟩ := own_form ho5; rw [Nat.zero_add, List.nil_append] at ho5; simp only [Nat.zero_add]; have hu5 : Up (wr) w5 := ((Up.refl (wr)).alloc _).grown hg5 (fun g hg => ((row_new (wr) #[] 110 (base := (wr).heap.size) (sz := 2) (n := 0) (Nat.le_refl _) rfl (by omega)).lt g hg).1); clear hg5 hat5)
            | (at_builtin; refine wpList_append_rd _ rnamesT (own_up ho5 ((Up.refl w5).alloc _)) (Rd.made (n := 1) w5 #[.string (tx s), .int .i64 (f : Int)] 110 rfl) (ncs_one [(s, f)]) (by omega) (by omega) (by have := hu5.size; simp; omega) rfl rfl rfl rfl ?_; intro v6 w6 ho6 hg6 hat6; obtain ⟨R6, rc6, rfl⟩ := own_form ho6; have hu6 : Up (wr) w6 := (hu5.alloc _).grown hg6 (fun g hg => (ho5.lt g hg).1); (try have c6 := (hu6.cell (p := ⟨b, o + k * 2, none⟩) hb).trans c0); clear hg6 hat6 ho5 hu5)
            | (at_builtin; refine wpList_append_rd _ rnamesT ho6 ((HAB.out.nfrom hk2 hnc).up hu6) (ncs_one _) (by omega) (by omega) (by have := hu6.size; omega) rfl rfl rfl rfl ?_; intro v7 w7 ho7 hg7 hat7; obtain ⟨R7, rc7, rfl⟩ := own_form ho7; generalize hNN : k + 1 + (n - (k)) = N7 at *; have HNN := Lib.hid hNN; clear hNN; have hu7 : Up (wr) w7 := hu6.grown hg7 (fun g hg => (ho6.lt g hg).1); clear hg7 hat7 ho6 hu6))
          go_ret
          have hl7 : N7 = (withR l s f).length := by
            have := HNL.out
            rw [← HNN.out, HW.out, List.length_append, List.length_append, List.length_take, List.length_drop, List.length_singleton]
            omega
          have hcs : ncs (l.take k) ++ [Value.string (tx s), .int .i64 (f : Int)] ++ ncs (l.drop (k)) = ncs (withR l s f) := by
            rw [HW.out, ncs_append, ncs_append, ← List.append_assoc]; rfl
          rw [show ncs (l.take k) ++ (#[Value.string (tx s), .int .i64 (f : Int)] : Array Value).toList ++ ncs (l.drop (k)) = ncs (withR l s f) from hcs, hl7] at ho7
          rw [hl7]
          exact ⟨R7, rc7, rfl, ho7, hu7, fun k hk => .inr (inA_own ho7 hk).1⟩
    · have hlti : ¬ (k : Int) < (n : Int) := by omega
      have hkn : kN l s = k := by
        have h9 : kN l s = l.length := findIdx_miss fun j y hj hy => hno.out j y (by have := HNL.out; omega) hy
        have := HNL.out
        omega
      have hw : withR l s f = l.take k ++ ([(s, f)] ++ l.drop k) := by
        have h9 : kN1 l s = k := by
          unfold kN1
          rw [hkn, List.getElem?_eq_none (by have := HNL.out; omega), if_neg (by simp)]
        unfold withR
        rw [h9, hkn]
      have HW := Lib.hid hw
      have hk2 : k ≤ n := hk
      have C2 := fun W => cut_from_n W A n c k hk2
      clear hkn hw hr
      have C1 := fun W => cut_to_n W A n c k (by omega)
      go_wp2_with (first
        | (at_builtin; refine wpList_append_rd _ rnamesT (row_new wr #[] 110 (base := (wr).heap.size) (sz := 2) (n := 0) (Nat.le_refl _) rfl (by omega)) ((HAB.out.nto hk).up ((Up.refl _).alloc _)) (ncs_one _) (by omega) (by omega) (by simp) rfl rfl rfl rfl ?_; intro v5 w5 ho5 hg5 hat5; obtain ⟨R5, rc5, rfl⟩ := own_form ho5; rw [Nat.zero_add, List.nil_append] at ho5; simp only [Nat.zero_add]; have hu5 : Up (wr) w5 := ((Up.refl (wr)).alloc _).grown hg5 (fun g hg => ((row_new (wr) #[] 110 (base := (wr).heap.size) (sz := 2) (n := 0) (Nat.le_refl _) rfl (by omega)).lt g hg).1); clear hg5 hat5)
        | (at_builtin; refine wpList_append_rd _ rnamesT (own_up ho5 ((Up.refl w5).alloc _)) (Rd.made (n := 1) w5 #[.string (tx s), .int .i64 (f : Int)] 110 rfl) (ncs_one [(s, f)]) (by omega) (by omega) (by have := hu5.size; simp; omega) rfl rfl rfl rfl ?_; intro v6 w6 ho6 hg6 hat6; obtain ⟨R6, rc6, rfl⟩ := own_form ho6; have hu6 : Up (wr) w6 := (hu5.alloc _).grown hg6 (fun g hg => (ho5.lt g hg).1); (try have c6 := (hu6.cell (p := ⟨b, o + k * 2, none⟩) hb).trans hk); clear hg6 hat6 ho5 hu5)
        | (at_builtin; refine wpList_append_rd _ rnamesT ho6 ((HAB.out.nfrom hk2 hnc).up hu6) (ncs_one _) (by omega) (by omega) (by have := hu6.size; omega) rfl rfl rfl rfl ?_; intro v7 w7 ho7 hg7 hat7; obtain ⟨R7, rc7, rfl⟩ := own_form ho7; generalize hNN : k + 1 + (n - (k)) = N7 at *; have HNN := Lib.hid hNN; clear hNN; have hu7 : Up (wr) w7 := hu6.grown hg7 (fun g hg => (ho6.lt g hg).1); clear hg7 hat7 ho6 hu6))
      go_ret
      have hl7 : N7 = (withR l s f).length := by
        have := HNL.out
        rw [← HNN.out, HW.out, List.length_append, List.length_append, List.length_take, List.length_drop, List.length_singleton]
        omega
      have hcs : ncs (l.take k) ++ [Value.string (tx s), .int .i64 (f : Int)] ++ ncs (l.drop (k)) = ncs (withR l s f) := by
        rw [HW.out, ncs_append, ncs_append, ← List.append_assoc]; rfl
      rw [show ncs (l.take k) ++ (#[Value.string (tx s), .int .i64 (f : Int)] : Array Value).toList ++ ncs (l.drop (k)) = ncs (withR l s f) from hcs, hl7] at ho7
      rw [hl7]
      exact ⟨R7, rc7, rfl, ho7, hu7, fun k hk => .inr (inA_own ho7 hk).1⟩
end Go.Proofs.Ytebhhfmekmpnkaa

/-
  The walks of the document's disk: call, without, used.
-/
namespace Go.Proofs.Ytebhhfmekmpnkaa
open Go.RowKit Go.Maps
set_option linter.unusedVariables false
set_option linter.unusedSimpArgs false

def callRS (r : Rk) : Rk := if r.left ≤ 0 then r else { r with left := r.left - 1, dead := decide (r.left - 1 = 0) }
def callR (r : Rk) : Rk × Nat :=
  if r.dead = true then ({ r with calls := r.calls + 1 }, 50)
  else if r.fail = 0 then (callRS { r with calls := r.calls + 1 }, 0)
  else if r.fail = 1 then ({ callRS { r with calls := r.calls + 1 } with fail := 0 }, 15)
  else ({ callRS { r with calls := r.calls + 1 } with fail := r.fail - 1 }, 0)
theorem callRS_same (r : Rk) : (callRS r).files = r.files ∧ (callRS r).now = r.now ∧ (callRS r).last = r.last ∧ (callRS r).ops = r.ops ∧ (callRS r).quota = r.quota := by
  unfold callRS
  split <;> exact ⟨rfl, rfl, rfl, rfl, rfl⟩
theorem callR_same (r : Rk) : (callR r).1.files = r.files ∧ (callR r).1.now = r.now ∧ (callR r).1.last = r.last ∧ (callR r).1.ops = r.ops ∧ (callR r).1.quota = r.quota := by
  have h := callRS_same { r with calls := r.calls + 1 }
  unfold callR
  split
  · exact ⟨rfl, rfl, rfl, rfl, rfl⟩
  · split
    · exact h
    · split <;> exact h
theorem RkB.same {r r' : Rk} (h : RkB r) (e : r'.files = r.files ∧ r'.now = r.now ∧ r'.last = r.last ∧ r'.ops = r.ops ∧ r'.quota = r.quota) : RkB r' := by
  obtain ⟨e1, e2, e3, e4, e5⟩ := e
  exact ⟨by rw [e1]; exact h.nf, by rw [e2]; exact h.nn, by rw [e3]; exact h.nl, by rw [e4]; exact h.no, by rw [e1]; exact h.fb, by rw [e1, e2]; exact h.now, by rw [e5]; exact h.q⟩
/-- a call ahead of which names are looked at, and calls are counted -/
def afterR (L : List (List UInt8)) (r : Rk) (f : Rk → Rk × Nat) : Rk × Nat := if L.all nameB = false then (r, 10) else if (callR r).2 ≠ 0 then callR r else f (callR r).1
theorem afterR_bad {L : List (List UInt8)} {r : Rk} {f : Rk → Rk × Nat} (h : L.all nameB = false) : afterR L r f = (r, 10) := by unfold afterR; rw [if_pos h]
theorem afterR_err {L : List (List UInt8)} {r r1 : Rk} {ec : Nat} {f : Rk → Rk × Nat} (h : L.all nameB = true) (hc : callR r = (r1, ec)) (he : ec ≠ 0) : afterR L r f = (r1, ec) := by unfold afterR; rw [if_neg (by rw [h]; decide), hc, if_pos he]
theorem afterR_ok {L : List (List UInt8)} {r r1 : Rk} {ec : Nat} {f : Rk → Rk × Nat} (h : L.all nameB = true) (hc : callR r = (r1, ec)) (he : ¬ ec ≠ 0) : afterR L r f = f r1 := by unfold afterR; rw [if_neg (by rw [h]; decide), hc, if_neg he]
set_option maxRecDepth 100000 in
set_option maxHeartbeats 1600000 in
theorem rcall_any {B : Nat} {h : Rh} {r : Rk} {w : World} (H : RkAt B h r w) (hok : RkOk r) :
    Calls Try.prog 73 #[.pointer (some ⟨h.g, 0, none⟩)] w fun e w' => e = .returned (.int .i64 ((callR r).2 : Int)) ∧ RkAt B h (callR r).1 w' ∧ RkTo h w h w' := by
  obtain ⟨quota, files, now, last, ops, calls, left, fail, dead⟩ := r
  have hcl : calls ≤ 1000000000 := hok.c
  have hbl : left ≤ 9223372036854775807 := hok.l2
  have hbl1 : -1 ≤ left := hok.l1
  have hbf : fail ≤ 9223372036854775807 := hok.f
  obtain ⟨H1, D1⟩ := H.setHead ⟨quota, files, now, last, ops, calls + 1, left, fail, dead⟩ 5 (.int .i64 ((calls : Int) + 1)) (by simp [rcs]) rfl rfl rfl rfl
  have c5 : w.cell? ⟨h.g, 5, none⟩ = some (.int .i64 (calls : Int)) := blk_cell H.hd 5
  have z5 := blk_free H.hd 5
  have d8 : (w.setCell ⟨h.g, 5, none⟩ (.int .i64 ((calls : Int) + 1))).cell? ⟨h.g, 8, none⟩ = some (.bool dead) := blk_cell H1.hd 8
  clear hok
  go_enter Try.func73, Try.ntmps73
  go_upto_region 2 with (fail)
  clear c5 z5
  generalize w.setCell ⟨h.g, 5, none⟩ (.int .i64 ((calls : Int) + 1)) = w2 at *
  have HX := Lib.hid H
  clear H
  cases dead with
  | true =>
    go_wp2_with fail
    go_ret
    exact ⟨rfl, H1, D1⟩
  | false =>
    have c7 : w2.cell? ⟨h.g, 6, none⟩ = some (.int .i64 left) := blk_cell H1.hd 6
    have z7 := blk_free H1.hd 6
    have c8 : w2.cell? ⟨h.g, 7, none⟩ = some (.int .i64 (fail : Int)) := blk_cell H1.hd 7
    have z8 := blk_free H1.hd 7
    by_cases hs : left ≤ 0
    · have hsi : ¬ (0 : Int) < left := by omega
      have hcd : callRS ⟨quota, files, now, last, ops, calls + 1, left, fail, false⟩ = ⟨quota, files, now, last, ops, calls + 1, left, fail, false⟩ := by unfold callRS; rw [if_pos hs]
      have HCD := Lib.hid hcd
      clear hcd
      by_cases hf : fail = 0
      · have hfi : ¬ (0 : Int) < (fail : Int) := by omega
        have hrs : callR ⟨quota, files, now, last, ops, calls, left, fail, false⟩ = (⟨quota, files, now, last, ops, calls + 1, left, fail, false⟩, 0) := by
          unfold callR
          rw [if_neg (by simp), if_pos hf, HCD.out]
        have HRS := Lib.hid hrs
        clear hrs hf
        go_wp2_with fail
        go_ret
        rw [HRS.out]
        exact ⟨rfl, H1, D1⟩
      · have hfi : (0 : Int) < (fail : Int) := by omega
        obtain ⟨H3, D3⟩ := (H1).setHead ⟨quota, files, now, last, ops, calls + 1, left, fail - 1, false⟩ 7 (.int .i64 ((fail : Int) - 1)) (by simp [rcs]; omega) rfl rfl rfl rfl
        have y8 : ((w2).setCell ⟨h.g, 7, none⟩ (.int .i64 ((fail : Int) - 1))).cell? ⟨h.g, 7, none⟩ = some (.int .i64 ((fail : Int) - 1)) := by
          have h9 := blk_cell H3.hd 7
          rw [h9]
          simp [rcs]
          omega
        by_cases hf1 : fail = 1
        · have hfb : ((fail : Int) - 1 == 0) = true := by rw [beq_iff_eq]; omega
          have hrs : callR ⟨quota, files, now, last, ops, calls, left, fail, false⟩ = (⟨quota, files, now, last, ops, calls + 1, left, fail - 1, false⟩, 15) := by
            unfold callR
            rw [if_neg (by simp), if_neg hf, if_pos hf1, HCD.out, hf1]
          have HRS := Lib.hid hrs
          clear hrs hf hf1
          go_wp2_with fail
          go_ret
          rw [HRS.out]
          exact ⟨rfl, H3, (D1).trans D3⟩
        · have hfb : ((fail : Int) - 1 == 0) = false := by rw [beq_eq_false_iff_ne]; omega
          have hrs : callR ⟨quota, files, now, last, ops, calls, left, fail, false⟩ = (⟨quota, files, now, last, ops, calls + 1, left, fail - 1, false⟩, 0) := by
            unfold callR
            rw [if_neg (by simp), if_neg hf, if_neg hf1, HCD.out]
          have HRS := Lib.hid hrs
          clear hrs hf hf1
          go_wp2_with fail
          go_ret
          rw [HRS.out]
          exact ⟨rfl, H3, (D1).trans D3⟩
    · have hsi : (0 : Int) < left := by omega
      obtain ⟨H2, D2⟩ := H1.setHead ⟨quota, files, now, last, ops, calls + 1, left - 1, fail, false⟩ 6 (.int .i64 (left - 1)) (by simp [rcs]) rfl rfl rfl rfl
      have y7 : (w2.setCell ⟨h.g, 6, none⟩ (.int .i64 (left - 1))).cell? ⟨h.g, 6, none⟩ = some (.int .i64 (left - 1)) := blk_cell H2.hd 6
      have x6 := blk_free H2.hd 8
      by_cases hs1 : left = 1
      · have hsb : (left - 1 == 0) = true := by rw [beq_iff_eq]; omega
        have hcd : callRS ⟨quota, files, now, last, ops, calls + 1, left, fail, false⟩ = ⟨quota, files, now, last, ops, calls + 1, left - 1, fail, true⟩ := by
          unfold callRS
          rw [if_neg hs]
          simp
          omega
        obtain ⟨H4, D4⟩ := H2.setHead ⟨quota, files, now, last, ops, calls + 1, left - 1, fail, true⟩ 8 (.bool true) rfl rfl rfl rfl rfl
        have HCD := Lib.hid hcd
        have D14 := D1.trans (D2.trans D4)
        have HSX := Lib.hid hs1
        clear hcd hs hs1
        have x8 : ((w2.setCell ⟨h.g, 6, none⟩ (.int .i64 (left - 1))).setCell ⟨h.g, 8, none⟩ (.bool true)).cell? ⟨h.g, 7, none⟩ = some (.int .i64 (fail : Int)) := blk_cell H4.hd 7
        have w8 := blk_free H4.hd 7
        by_cases hf : fail = 0
        · have hfi : ¬ (0 : Int) < (fail : Int) := by omega
          have hrs : callR ⟨quota, files, now, last, ops, calls, left, fail, false⟩ = (⟨quota, files, now, last, ops, calls + 1, left - 1, fail, true⟩, 0) := by
            unfold callR
            rw [if_neg (by simp), if_pos hf, HCD.out]
          have HRS := Lib.hid hrs
          clear hrs hf
          go_wp2_with fail
          go_ret
          rw [HRS.out]
          exact ⟨rfl, H4, D14⟩
        · have hfi : (0 : Int) < (fail : Int) := by omega
          obtain ⟨H3, D3⟩ := (H4).setHead ⟨quota, files, now, last, ops, calls + 1, left - 1, fail - 1, true⟩ 7 (.int .i64 ((fail : Int) - 1)) (by simp [rcs]; omega) rfl rfl rfl rfl
          have y8 : (((w2.setCell ⟨h.g, 6, none⟩ (.int .i64 (left - 1))).setCell ⟨h.g, 8, none⟩ (.bool true)).setCell ⟨h.g, 7, none⟩ (.int .i64 ((fail : Int) - 1))).cell? ⟨h.g, 7, none⟩ = some (.int .i64 ((fail : Int) - 1)) := by
            have h9 := blk_cell H3.hd 7
            rw [h9]
            simp [rcs]
            omega
          by_cases hf1 : fail = 1
          · have hfb : ((fail : Int) - 1 == 0) = true := by rw [beq_iff_eq]; omega
            have hrs : callR ⟨quota, files, now, last, ops, calls, left, fail, false⟩ = (⟨quota, files, now, last, ops, calls + 1, left - 1, fail - 1, true⟩, 15) := by
              unfold callR
              rw [if_neg (by simp), if_neg hf, if_pos hf1, HCD.out, hf1]
            have HRS := Lib.hid hrs
            clear hrs hf hf1
            go_wp2_with fail
            go_ret
            rw [HRS.out]
            exact ⟨rfl, H3, (D14).trans D3⟩
          · have hfb : ((fail : Int) - 1 == 0) = false := by rw [beq_eq_false_iff_ne]; omega
            have hrs : callR ⟨quota, files, now, last, ops, calls, left, fail, false⟩ = (⟨quota, files, now, last, ops, calls + 1, left - 1, fail - 1, true⟩, 0) := by
              unfold callR
              rw [if_neg (by simp), if_neg hf, if_neg hf1, HCD.out]
            have HRS := Lib.hid hrs
            clear hrs hf hf1
            go_wp2_with fail
            go_ret
            rw [HRS.out]
            exact ⟨rfl, H3, (D14).trans D3⟩
      · have hsb : (left - 1 == 0) = false := by rw [beq_eq_false_iff_ne]; omega
        have hcd : callRS ⟨quota, files, now, last, ops, calls + 1, left, fail, false⟩ = ⟨quota, files, now, last, ops, calls + 1, left - 1, fail, false⟩ := by
          unfold callRS
          rw [if_neg hs]
          simp
          omega
        obtain ⟨H4, D4⟩ := H2.setHead ⟨quota, files, now, last, ops, calls + 1, left - 1, fail, false⟩ 8 (.bool false) rfl rfl rfl rfl rfl
        have HCD := Lib.hid hcd
        have D14 := D1.trans (D2.trans D4)
        have HSX := Lib.hid hs1
        clear hcd hs hs1
        have x8 : ((w2.setCell ⟨h.g, 6, none⟩ (.int .i64 (left - 1))).setCell ⟨h.g, 8, none⟩ (.bool false)).cell? ⟨h.g, 7, none⟩ = some (.int .i64 (fail : Int)) := blk_cell H4.hd 7
        have w8 := blk_free H4.hd 7
        by_cases hf : fail = 0
        · have hfi : ¬ (0 : Int) < (fail : Int) := by omega
          have hrs : callR ⟨quota, files, now, last, ops, calls, left, fail, false⟩ = (⟨quota, files, now, last, ops, calls + 1, left - 1, fail, false⟩, 0) := by
            unfold callR
            rw [if_neg (by simp), if_pos hf, HCD.out]
          have HRS := Lib.hid hrs
          clear hrs hf
          go_wp2_with fail
          go_ret
          rw [HRS.out]
          exact ⟨rfl, H4, D14⟩
        · have hfi : (0 : Int) < (fail : Int) := by omega
          obtain ⟨H3, D3⟩ := (H4).setHead ⟨quota, files, now, last, ops, calls + 1, left - 1, fail - 1, false⟩ 7 (.int .i64 ((fail : Int) - 1)) (by simp [rcs]; omega) rfl rfl rfl rfl
          have y8 : (((w2.setCell ⟨h.g, 6, none⟩ (.int .i64 (left - 1))).setCell ⟨h.g, 8, none⟩ (.bool false)).setCell ⟨h.g, 7, none⟩ (.int .i64 ((fail : Int) - 1))).cell? ⟨h.g, 7, none⟩ = some (.int .i64 ((fail : Int) - 1)) := by
            have h9 := blk_cell H3.hd 7
            rw [h9]
            simp [rcs]
            omega
          by_cases hf1 : fail = 1
          · have hfb : ((fail : Int) - 1 == 0) = true := by rw [beq_iff_eq]; omega
            have hrs : callR ⟨quota, files, now, last, ops, calls, left, fail, false⟩ = (⟨quota, files, now, last, ops, calls + 1, left - 1, fail - 1, false⟩, 15) := by
              unfold callR
              rw [if_neg (by simp), if_neg hf, if_pos hf1, HCD.out, hf1]
            have HRS := Lib.hid hrs
            clear hrs hf hf1
            go_wp2_with fail
            go_ret
            rw [HRS.out]
            exact ⟨rfl, H3, (D14).trans D3⟩
          · have hfb : ((fail : Int) - 1 == 0) = false := by rw [beq_eq_false_iff_ne]; omega
            have hrs : callR ⟨quota, files, now, last, ops, calls, left, fail, false⟩ = (⟨quota, files, now, last, ops, calls + 1, left - 1, fail - 1, false⟩, 0) := by
              unfold callR
              rw [if_neg (by simp), if_neg hf, if_neg hf1, HCD.out]
            have HRS := Lib.hid hrs
            clear hrs hf hf1
            go_wp2_with fail
            go_ret
            rw [HRS.out]
            exact ⟨rfl, H3, (D14).trans D3⟩
set_option maxRecDepth 100000 in
set_option maxHeartbeats 1600000 in
theorem without_any {B : Nat} (A : Option Addr) (n c : Nat) (l : List Nm) (s : List UInt8) (w : World) (ho : w.ownsRow B 110 2 (.slice A n c) n (ncs l)) (hB : B ≤ w.heap.size) (hn : n ≤ 4000000) :
    Calls Try.prog 63 #[.slice A n c, .string (tx s)] w (NmPost B A w (withoutR l s)) := by
  have hnl := (Rd.own ho).nlen
  have hnc := own_cap ho
  have HNL := Lib.hid hnl
  have HAT := Lib.hid (rat_any A n c l s w (Rd.own ho) hn)
  have HO := Lib.hid ho
  by_cases hx : ixN l s < l.length
  · obtain ⟨k, hk⟩ : ∃ k, k = ixN l s := ⟨_, rfl⟩
    have hat : atR l s = (k : Int) := by unfold atR; rw [if_pos hx, hk]
    have hw : withoutR l s = l.take k ++ l.drop (k + 1) := by unfold withoutR; rw [if_pos hx, hk]
    have hkn : k + 1 ≤ n := by omega
    have HA := Lib.hid hat
    have HW := Lib.hid hw
    have hS : ∀ w1, Up w w1 → Up w w1 := fun _ h => h
    have CT := fun W => cut_to_n W A n c k (by omega)
    have CF := fun W => cut_from_n1 W A n c k hkn
    have HR : Hid (∀ w1, Up w w1 → Rd w1 w1.heap.size 2 A n (ncs l)) := fun w1 hu => (Rd.own HO.out).up hu
    have hsz : ∀ w1, Up w w1 → w.heap.size ≤ w1.heap.size := fun w1 h => h.size
    clear hx hk hat hw hnl ho
    have hk0 : ¬ (k : Int) < 0 := by omega
    have hwr1 : IntKind.i64.wrap ((k : Int) + 1) = (k : Int) + 1 := IntWalk.i64_in _ (by omega)
    go_enter Try.func63, Try.ntmps63
    go_wp2_with fail
    refine HAT.out.mono ?_
    rintro e w1 ⟨rfl, rfl⟩
    rw [HA.out]
    clear HAT
    go_wp2_with fail
    apply Rg.region_up _ (by kernel_rfl) (by kernel_rfl) hS
    · intro QN hQN
      apply Rg.RK.opn (fun v W1 => W1.ownsRow w.heap.size 110 2 v 0 (ncs [])) Rg.ob [] []
      · exact fun v W1 W2 h hs => row_sta h hs
      · rfl
      · intro vs w9 hK hS9 _ K hKK
        go_simp
        exact hKK.out _ _ (row_new w9 _ _ (hsz w9 hS9) rfl (by omega)) (Rg.Keeps.of_up ((Up.refl _).alloc _)) (by rintro g rfl; exact ⟨by simp, .inl (Nat.le_refl _)⟩)
      simp only [Act.put, List.setIfInBounds_toArray, List.set_cons_zero, List.set_cons_succ, Nat.reduceAdd]
      iterate 3 (apply Rg.RK.ok; (· intro vs w1 hS; go_simp; with_reducible rfl); (· rfl); simp only [Act.put, List.setIfInBounds_toArray, List.set_cons_zero, List.set_cons_succ, Nat.reduceAdd])
      apply Rg.RK.opn (fun v W => W.ownsRow w.heap.size 110 2 v k (ncs (l.take k))) Rg.ob [0] [0]
      · exact fun v W1 W2 h hs => row_sta h hs
      · rfl
      · intro vs w4 hK hS hf K hKK
        have h0 : w4.ownsRow w.heap.size 110 2 (vs 0) 0 (ncs []) := hf.1
        refine wp_append_rd _ _ _ rnamesT rfl rfl rfl h0 ((HR.out w4 hS).nto (k := k) (by omega)) (ncs_one _) (by omega) (by omega) (hsz w4 hS) fun v' w5 ho' hg' hat' => ?_
        rw [Nat.zero_add, show ncs [] ++ ncs (l.take k) = ncs (l.take k) from rfl] at ho'
        exact hKK.out _ _ ho' (keeps_grown h0 hg' fun g hg => ⟨0, List.mem_singleton.2 rfl, hg⟩) (fun g hg => by have h9 := own_grown h0 ho' hat' (X := fun g => Rg.ob (vs 0) g) (fun g hg => hg) g hg; exact ⟨h9.1, h9.2.imp id (fun h => ⟨0, List.mem_singleton.2 rfl, h⟩)⟩)
      simp only [Act.put, List.setIfInBounds_toArray, List.set_cons_zero, List.set_cons_succ, Nat.reduceAdd]
      iterate 4 (apply Rg.RK.ok; (· intro vs w1 hS; go_simp; with_reducible rfl); (· rfl); simp only [Act.put, List.setIfInBounds_toArray, List.set_cons_zero, List.set_cons_succ, Nat.reduceAdd])
      apply Rg.RK.opn (fun v W => W.ownsRow w.heap.size 110 2 v (k + (n - (k + 1))) (ncs (l.take k ++ l.drop (k + 1)))) Rg.ob [4] [4]
      · exact fun v W1 W2 h hs => row_sta h hs
      · rfl
      · intro vs w4 hK hS hf K hKK
        have h0 : w4.ownsRow w.heap.size 110 2 (vs 4) k (ncs (l.take k)) := hf.1
        refine wp_append_rd _ _ _ rnamesT rfl rfl rfl h0 ((HR.out w4 hS).nfrom (k := k + 1) hkn hnc) (ncs_one _) (by omega) (by omega) (hsz w4 hS) fun v' w5 ho' hg' hat' => ?_
        rw [← ncs_append] at ho'
        exact hKK.out _ _ ho' (keeps_grown h0 hg' fun g hg => ⟨4, List.mem_singleton.2 rfl, hg⟩) (fun g hg => by have h9 := own_grown h0 ho' hat' (X := fun g => Rg.ob (vs 4) g) (fun g hg => hg) g hg; exact ⟨h9.1, h9.2.imp id (fun h => ⟨4, List.mem_singleton.2 rfl, h⟩)⟩)
      simp only [Act.put, List.setIfInBounds_toArray, List.set_cons_zero, List.set_cons_succ, Nat.reduceAdd]
      apply Rg.RK.opD (fun vs _ => vs 10 = vs 9) (fun _ _ => False) [] [] [9] (fun vs vs' h => by rw [h 10 (by simp), h 9 (by simp)]; exact ⟨rfl, rfl⟩)
      · exact fun vs W1 W2 h hs => h
      · rfl
      · intro vs w4 hK hS hf K hKK
        go_simp
        exact hKK.out _ _ (by rw [Rg.upd_same, Rg.upd_ne _ _ (by decide)]) (Rg.Keeps.refl _ _) (fun g hg => hg.elim)
      simp only [Act.put, List.setIfInBounds_toArray, List.set_cons_zero, List.set_cons_succ, Nat.reduceAdd]
      apply Rg.RK.fin [9, 10]
      intro vs w9 hK hS9 hf
      have h9 : w9.ownsRow w.heap.size 110 2 (vs 9) (k + (n - (k + 1))) (ncs (l.take k ++ l.drop (k + 1))) := hf.1
      have h10 : vs 10 = vs 9 := hf.2.1
      refine hQN.out _ _ ?_
      clear hQN
      obtain ⟨R, rc, hv⟩ := own_form h9
      (try dsimp only)
      rw [h10]
      rw [hv] at h9 ⊢
      have hu9 := hS9
      have hlen : k + (n - (k + 1)) = (withoutR l s).length := by
        have := HNL.out
        rw [HW.out, List.length_append, List.length_take, List.length_drop]
        omega
      rw [← HW.out, hlen] at h9
      rw [hlen]
      clear hv hf hK hS9 h10
      go_wp2_with fail
      go_ret
      exact ⟨R, rc, rfl, own_base h9 hB, hu9, fun k hk => .inr (inA_own h9 hk).1⟩
    · kernel_rfl
  · have hat : atR l s = -1 := by unfold atR; rw [if_neg hx]
    have hw : withoutR l s = l := by unfold withoutR; rw [if_neg hx]
    have HA := Lib.hid hat
    have HW := Lib.hid hw
    clear hx hat hw hnl ho
    go_enter Try.func63, Try.ntmps63
    go_wp2_with fail
    refine HAT.out.mono ?_
    rintro e w1 ⟨rfl, rfl⟩
    rw [HA.out]
    go_wp2_with fail
    go_ret
    rw [HW.out]
    refine ⟨A, c, ?_, ?_, Up.refl _, fun k hk => .inl hk⟩
    · rw [← HNL.out]; rfl
    · rw [← HNL.out]; exact HO.out
def usedRS (fs : List Fi) (l : List Nm) : Nat := (l.map fun p => (fs.getD p.2 ⟨[], 0⟩).b.length).sum
def usedR (r : Rk) : Nat := usedRS r.files r.now
theorem usedRS_le {fs : List Fi} (hf : ∀ f ∈ fs, f.b.length ≤ 250000) : ∀ l : List Nm, usedRS fs l ≤ l.length * 250000
  | [] => by simp [usedRS]
  | p :: l => by
    have ih := usedRS_le hf l
    have h1 : (fs.getD p.2 ⟨[], 0⟩).b.length ≤ 250000 := by
      rw [List.getD_eq_getElem?_getD]
      cases hg : fs[p.2]? with
      | none => simp
      | some f => exact hf f (List.mem_of_getElem? hg)
    have e : usedRS fs (p :: l) = (fs.getD p.2 ⟨[], 0⟩).b.length + usedRS fs l := by simp [usedRS]
    rw [e, List.length_cons]
    omega
theorem usedRS_succ {fs : List Fi} {l : List Nm} {k : Nat} {p : Nm} (h : l[k]? = some p) : usedRS fs (l.take (k + 1)) = usedRS fs (l.take k) + (fs.getD p.2 ⟨[], 0⟩).b.length := by
  rw [List.take_add_one, h]
  simp [usedRS]
set_option maxRecDepth 100000 in
set_option maxHeartbeats 1600000 in
theorem rused_any {B : Nat} {h : Rh} {r : Rk} {w : World} (H : RkAt B h r w) (hok : RkB r) :
    Calls Try.prog 74 #[.pointer (some ⟨h.g, 0, none⟩)] w fun e w' => e = .returned (.int .i64 (usedR r : Int)) ∧ Up w w' := by
  have hnn := hok.nn
  have HFB := Lib.hid (fun f hf => (hok.fb f hf).1)
  have HNF := Lib.hid hok.now
  have hul : ∀ k, k ≤ r.now.length → usedRS r.files (r.now.take k) ≤ k * 250000 := fun k hk => by
    have h9 := usedRS_le HFB.out (r.now.take k)
    rw [List.length_take, Nat.min_eq_left hk] at h9
    exact h9
  have HUL := Lib.hid hul
  clear hul
  go_enter Try.func74, Try.ntmps74
  go_wp2_with fail
  go_loopw [3, 4] (fun s i wr => ∃ k : Nat, i = .int .i64 (k : Int) ∧ s = .int .i64 (usedRS r.files (r.now.take k) : Int) ∧ k ≤ r.now.length ∧ Up w wr) (fun _ i _ => r.now.length - (intOf i).toNat)
  case atStart => exact ⟨0, rfl, rfl, by omega, Up.refl _⟩
  case round =>
    obtain ⟨k, rfl, rfl, hk, hu⟩ := hrel
    have HW := H.up hu
    have hb := HUL.out k hk
    have c2 : wr.cell? ⟨h.g, 2, none⟩ = some (.slice h.na r.now.length h.nc) := blk_cell HW.hd 2
    by_cases hlt : k < r.now.length
    · have hlti : (k : Int) < (r.now.length : Int) := by omega
      obtain ⟨b, o, p, hna, hbb, hp, n0, n1⟩ := (Rd.own HW.now).name_at hlt
      have hpf := HNF.out p (List.mem_of_getElem? hp)
      obtain ⟨b2, o2, f, hfa, hbb2, hf, f0, f1⟩ := (Rd.own HW.files).fi_at hpf
      have c1 : wr.cell? ⟨h.g, 1, none⟩ = some (.slice (some ⟨b2, o2, none⟩) r.files.length h.fc) := by have := blk_cell HW.hd 1; rw [← hfa]; exact this
      have hfl := HFB.out f (List.mem_of_getElem? hf)
      have hpfi : (p.2 : Int) < (r.files.length : Int) := by omega
      have hsu : usedRS r.files (r.now.take (k + 1)) = usedRS r.files (r.now.take k) + f.b.length := by
        rw [usedRS_succ hp, List.getD_eq_getElem?_getD, hf]; rfl
      have HSU := Lib.hid hsu
      rw [hna] at c2
      obtain ⟨pn, pf⟩ := p
      obtain ⟨fb, fl⟩ := f
      (try dsimp only at hpf n0 n1 f0 f1 hfl hpfi HSU)
      generalize usedRS r.files (r.now.take k) = T at *
      have c2' : wr.cell? ⟨h.g, 2, none⟩ = some (.slice (some ⟨b, o, none⟩) r.now.length h.nc) := c2
      have k1 : ∀ W, Up wr W → W.cell? ⟨h.g, 1, none⟩ = some (.slice (some ⟨b2, o2, none⟩) r.files.length h.fc) := fun W hU => (hU.cell (p := ⟨h.g, 1, none⟩) (HW.lt (.inl rfl)).2).trans c1
      have k2 : ∀ W, Up wr W → W.cell? ⟨h.g, 2, none⟩ = some (.slice (some ⟨b, o, none⟩) r.now.length h.nc) := fun W hU => (hU.cell (p := ⟨h.g, 2, none⟩) (HW.lt (.inl rfl)).2).trans c2
      have k3 : ∀ W, Up wr W → W.cell? ⟨b, o + k * 2 + 1, none⟩ = some (.int .i64 (pf : Int)) := fun W hU => (hU.cell (p := ⟨b, o + k * 2 + 1, none⟩) hbb).trans n1
      have k4 : ∀ W, Up wr W → W.cell? ⟨b2, o2 + pf * 2, none⟩ = some (.string (tx fb)) := fun W hU => (hU.cell (p := ⟨b2, o2 + pf * 2, none⟩) hbb2).trans f0
      have hd1 : decide (k < r.now.length) = true := by simpa using hlt
      have hd2 : decide (pf < r.files.length) = true := by simpa using hpf
      have hS : ∀ W, Up wr W → Up wr W := fun _ h => h
      have htx : (tx fb).size = fb.length := tx_size fb
      have hwr : IntKind.i64.wrap ((T : Int) + (fb.length : Int)) = (T : Int) + (fb.length : Int) := IntWalk.i64_in _ (by omega)
      clear hsu hp hf hna hfa H HW n0 f1 f0 n1 c1 c2'
      go_wp2_with fail
      clear c2
      apply Rg.region_up _ (by kernel_rfl) (by kernel_rfl) hS
      · intro QN hQN
        iterate 19 (apply Rg.RK.ok; (· intro vs w1 hS; go_simp; with_reducible rfl); (· rfl); simp only [Act.put, List.setIfInBounds_toArray, List.set_cons_zero, List.set_cons_succ, Nat.reduceAdd])
        apply Rg.RK.fin []
        intro vs w1 hK hS _
        refine hQN.out _ _ ?_
        clear hQN
        have hu9 := hu.trans hS
        clear hS hK
        go_wp2_with fail
        go_roundw
        case rel => exact ⟨k + 1, by go_num, by rw [HSU.out]; go_num, by omega, hu9⟩
        case measure => simp [intOf]; omega
      · kernel_rfl
    · have hlti : ¬ (k : Int) < (r.now.length : Int) := by omega
      have hus : usedR r = usedRS r.files (r.now.take k) := by unfold usedR; rw [List.take_of_length_le (by omega)]
      have HUS := Lib.hid hus
      generalize usedRS r.files (r.now.take k) = T at *
      clear hus
      go_wp2_with fail
      go_ret
      rw [HUS.out]
      exact ⟨rfl, hu⟩
end Go.Proofs.Ytebhhfmekmpnkaa

/-
  Names that were made one by one, and what of them a Crash leaves: plain laws.
-/
namespace Go.Proofs.Ytebhhfmekmpnkaa
open Go.RowKit Go.Maps
set_option linter.unusedVariables false
set_option linter.unusedSimpArgs false

def dgt (i : Nat) : UInt8 := UInt8.ofNat (48 + i)
/-- the name of number i -/
def nmD (i : Nat) : List UInt8 := [110, dgt ((i + 10) / 10), dgt ((i + 10) % 10)]
/-- k names made -/
def dNm : Nat → Dk
  | 0 => newD 1000
  | k + 1 => (createD (dNm k) (nmD k)).1
theorem lt16 {k : Nat} (h : k < 16) : k = 0 ∨ k = 1 ∨ k = 2 ∨ k = 3 ∨ k = 4 ∨ k = 5 ∨ k = 6 ∨ k = 7 ∨ k = 8 ∨ k = 9 ∨ k = 10 ∨ k = 11 ∨ k = 12 ∨ k = 13 ∨ k = 14 ∨ k = 15 := by omega
theorem nmD_ok {k : Nat} (h : k < 16) : nameB (nmD k) = true := by
  rcases lt16 h with rfl | rfl | rfl | rfl | rfl | rfl | rfl | rfl | rfl | rfl | rfl | rfl | rfl | rfl | rfl | rfl <;> decide
theorem nmD_lt : ∀ i : Fin 16, ∀ j : Fin 16, i.val < j.val → nmD i.val < nmD j.val := by decide +kernel
theorem nmD_ne {i j : Nat} (hi : i < 16) (hj : j < 16) (h : i ≠ j) : nmD i ≠ nmD j := by
  rcases Nat.lt_or_ge i j with h1 | h1
  · exact fun e => absurd (nmD_lt ⟨i, hi⟩ ⟨j, hj⟩ h1) (by show ¬ nmD i < nmD j; rw [e]; exact List.lt_irrefl _)
  · exact fun e => absurd (nmD_lt ⟨j, hj⟩ ⟨i, hi⟩ (by show j < i; omega)) (by show ¬ nmD j < nmD i; rw [e]; exact List.lt_irrefl _)
def tnD (i : Nat) : Tn := ⟨1, i, nmD i, []⟩
structure NmS (k : Nat) (d : Dk) : Prop where
  quota : d.quota = 1000
  files : d.files = List.replicate k ⟨[], 0⟩
  lasted : d.lasted = .map []
  turns : d.turns = (List.range k).map tnD
  calls : d.calls = k
  dead : d.dead = false
  stop : d.stop = 0
  fail : d.fail = 0
  tidy : Tidy d.names
  has : ∀ s, Maps.has d.names (nk s) = true ↔ ∃ i < k, s = nmD i
  size : Maps.size d.names = k
theorem callN_live {d : Dk} {s : List UInt8} (hn : nameB s = true) (h1 : d.dead = false) (h2 : d.stop = 0) (h3 : d.fail = 0) : callN [s] d = ({ d with calls := d.calls + 1 }, 0) := by
  unfold callN
  rw [if_pos (by simp [hn])]
  obtain ⟨q, f, n, l, t, c, dd, st, fa⟩ := d
  simp only at h1 h2 h3
  subst h1; subst h2; subst h3
  unfold callD callS
  simp
theorem NmS.step {k : Nat} {d : Dk} (h : NmS k d) (hk : k < 16) : (createD d (nmD k)).2 = 0 ∧ NmS (k + 1) (createD d (nmD k)).1 := by
  have hc := callN_live (nmD_ok hk) h.dead h.stop h.fail
  have hh : Maps.has d.names (nk (nmD k)) = false := by
    rw [← Bool.not_eq_true]
    intro e
    obtain ⟨i, hi, e⟩ := (h.has _).1 e
    exact nmD_ne hk (by omega) (by omega) e
  have hs := h.size
  have e : createD d (nmD k) = ({ d with calls := d.calls + 1, names := d.names.put (nk (nmD k)) (fiv d.files.length), turns := d.turns ++ [⟨1, d.files.length, nmD k, []⟩], files := d.files ++ [⟨[], 0⟩] }, 0) := by
    unfold createD
    rw [hc, if_neg (by simp), hh, if_neg (by simp), if_neg (by omega)]
  have hl : d.files.length = k := by rw [h.files, List.length_replicate]
  rw [e]
  refine ⟨rfl, h.quota, ?_, h.lasted, ?_, by show d.calls + 1 = k + 1; rw [h.calls], h.dead, h.stop, h.fail, h.tidy.put (show WideAt.IsKeyLit (nk (nmD k)) from trivial) _, ?_, ?_⟩
  · show d.files ++ _ = _
    rw [h.files, List.replicate_succ']
  · show d.turns ++ _ = _
    rw [h.turns, hl, List.range_succ, List.map_append]; rfl
  · intro s
    show Maps.has (d.names.put (nk (nmD k)) (fiv d.files.length)) (nk s) = true ↔ _
    by_cases hsk : s = nmD k
    · subst hsk
      rw [Maps.has_put_same h.tidy.isMap (show WideAt.IsKeyLit (nk (nmD k)) from trivial)]
      exact ⟨fun _ => ⟨k, by omega, rfl⟩, fun _ => rfl⟩
    · rw [Maps.has_put_other (by intro e; injection e with e; exact hsk e), h.has s]
      constructor
      · rintro ⟨i, hi, e⟩; exact ⟨i, by omega, e⟩
      · rintro ⟨i, hi, e9⟩
        refine ⟨i, ?_, e9⟩
        rcases Nat.lt_succ_iff_lt_or_eq.1 hi with h1 | h1
        · exact h1
        · subst h1; exact absurd e9 hsk
  · show Maps.size (d.names.put (nk (nmD k)) (fiv d.files.length)) = k + 1
    rw [Maps.size_put h.tidy, hh, if_neg (by simp), hs]
theorem NmS.zero : NmS 0 (newD 1000) := ⟨rfl, rfl, rfl, rfl, rfl, rfl, rfl, rfl, Maps.tidy_empty, fun s => by
  show Maps.has (DataW.map []) (nk s) = true ↔ _
  rw [Maps.has_eq]
  constructor
  · intro h; cases h
  · rintro ⟨i, h, _⟩; exact absurd h (Nat.not_lt_zero _), rfl⟩
/-! what a Crash leaves -/
def kpt (n : Nat) (keep : List Int) : List Nat := (List.range n).filter fun i => evI (keep.getD i 0)
theorem kpt_succ (n : Nat) (keep : List Int) : kpt (n + 1) keep = kpt n keep ++ (if evI (keep.getD n 0) = true then [n] else []) := by
  unfold kpt
  rw [List.range_succ, List.filter_append, List.filter_cons, List.filter_nil]
theorem kpt_lt {n i : Nat} {keep : List Int} (h : i ∈ kpt n keep) : i < n := List.mem_range.1 (List.mem_filter.1 h).1
/-- the names that a map has -/
structure NmI (D : Mp) (W : List (List UInt8)) : Prop where
  map : ∃ es, D = .map es ∧ es.Pairwise (fun p q => p.1 ≠ q.1) ∧ ∀ p ∈ es, ∃ x, p.1 = .string x
  mem : ∀ x, x ∈ W ↔ Maps.has D (nk x) = true
theorem NmI.nil : NmI (.map []) [] := ⟨⟨[], rfl, List.Pairwise.nil, fun p hp => by cases hp⟩, fun x => by rw [Maps.has_eq]; simp⟩
theorem NmI.put {D : Mp} {W : List (List UInt8)} (h : NmI D W) (s : List UInt8) (v : Mp) : NmI (D.put (nk s) v) (W ++ [s]) := by
  obtain ⟨es, rfl, hp, hs⟩ := h.map
  have ht : Tidy (DataW.map es : Mp) := ⟨es, rfl, hp⟩
  refine ⟨?_, fun x => ?_⟩
  · obtain ⟨es2, h2, hp2⟩ := ht.put (show WideAt.IsKeyLit (nk s) from trivial) v
    refine ⟨es2, h2, hp2, fun p hm => ?_⟩
    have e : es2 = DataW.insert (nk s, v) (es.filter fun p => !p.1.sameKey (nk s)) := by
      have e1 : (DataW.map es : Mp).put (nk s) v = .map (DataW.insert (nk s, v) (es.filter fun p => !p.1.sameKey (nk s))) := rfl
      rw [e1] at h2
      injection h2 with h2
      exact h2.symm
    rw [e] at hm
    rcases List.mem_cons.1 ((WideShapes.insert_perm _ _).mem_iff.1 hm) with h3 | h3
    · exact ⟨s, by rw [h3]; rfl⟩
    · exact hs p (List.mem_filter.1 h3).1
  · by_cases hx : x = s
    · subst hx
      rw [Maps.has_put_same ht.isMap (show WideAt.IsKeyLit (nk x) from trivial)]
      simp
    · rw [Maps.has_put_other (by intro e; injection e with e; exact hx e), ← h.mem x]
      simp [hx]
theorem crashT_kpt (keep : List Int) (n : Nat) : ∀ (m i : Nat) (D : Mp), i + m = n → NmI D ((kpt i keep).map nmD) → NmI (crashT ((List.range' i m).map tnD) D (keep.drop i)).1 ((kpt n keep).map nmD)
  | 0, i, D, hi, h => by
    obtain rfl : i = n := by omega
    exact h
  | m + 1, i, D, hi, h => by
    rw [List.range'_succ, List.map_cons]
    unfold crashT
    have e1 : (keep.drop i).headD 0 = keep.getD i 0 := by
      rw [List.headD_eq_head?_getD, List.head?_drop, List.getD_eq_getElem?_getD]
    have e2 : (keep.drop i).tail = keep.drop (i + 1) := by rw [List.tail_drop]
    rw [e1, e2]
    refine crashT_kpt keep n m (i + 1) _ (by omega) ?_
    rw [kpt_succ, List.map_append]
    by_cases hv : evI (keep.getD i 0) = true
    · rw [if_pos hv, if_pos hv]
      exact h.put (nmD i) (fiv i)
    · rw [if_neg hv, if_neg hv, List.map_nil, List.append_nil]
      exact h
theorem crashF_zero : ∀ (l : List Nat) (fs : List Fi) (keep : List Int), (∀ f ∈ fs, keepRest f = 0) → crashF l fs keep = (fs, keep)
  | [], fs, keep, _ => rfl
  | i :: r, fs, keep, h => by
    have e : keepRest (fs.getD i ⟨[], 0⟩) = 0 := by
      rw [List.getD_eq_getElem?_getD]
      cases hg : fs[i]? with
      | none => rfl
      | some f => exact h f (List.mem_of_getElem? hg)
    unfold crashF
    rw [if_pos e]
    exact crashF_zero r fs keep h
/-- a Crash behind k names -/
theorem NmS.crash {n : Nat} {d : Dk} (h : NmS n d) (keep : List Int) : NmI (crashD d keep).names ((kpt n keep).map nmD) := by
  have e : crashF (ledL d) d.files keep = (d.files, keep) := crashF_zero _ _ _ (by rw [h.files]; intro f hf; rw [List.eq_of_mem_replicate hf]; rfl)
  show NmI (crashT d.turns d.lasted (crashF (ledL d) d.files keep).2).1 _
  rw [e, h.turns, h.lasted, List.range_eq_range']
  exact crashT_kpt keep n n 0 _ (by omega) NmI.nil
theorem NmI.list {n : Nat} (hn : n ≤ 16) {D : Mp} {keep : List Int} (h : NmI D ((kpt n keep).map nmD)) {ss : List (List UInt8)} (hp : ss.Perm (strKeys D)) : ss.mergeSort (fun x y => decide (x ≤ y)) = (kpt n keep).map nmD := by
  obtain ⟨es, rfl, hpw, hs⟩ := h.map
  have hpair : (kpt n keep).Pairwise (fun i j => i < j) := (List.pairwise_lt_range).filter _
  have hlt : ((kpt n keep).map nmD).Pairwise (fun a b => a < b) := by
    rw [List.pairwise_map]
    refine hpair.imp_of_mem fun {i j} hi hj hij => ?_
    have h1 := kpt_lt hi
    have h2 := kpt_lt hj
    exact nmD_lt ⟨i, by omega⟩ ⟨j, by omega⟩ hij
  have hnd : ((kpt n keep).map nmD).Nodup := hlt.imp fun {a b} h e => by subst e; exact List.lt_irrefl _ h
  have hperm : ((kpt n keep).map nmD).Perm (strKeys (DataW.map es)) := perm_strKeys hpw hs hnd h.mem
  have e1 := mergeSort_of_perm (hp.trans hperm.symm)
  refine Eq.trans e1 (List.mergeSort_of_pairwise ?_)
  exact hlt.imp fun {a b} h => by simp only [decide_eq_true_eq]; exact List.le_of_lt h
end Go.Proofs.Ytebhhfmekmpnkaa

/-
  The walks of the document's Ok and of the law's digits.
-/
namespace Go.Proofs.Ytebhhfmekmpnkaa
open Go.RowKit Go.Maps
set_option linter.unusedVariables false
set_option linter.unusedSimpArgs false

set_option maxRecDepth 100000 in
set_option maxHeartbeats 1600000 in
theorem rok4_at (s : ByteArray) (l : List UInt8) (w : World) (hs : s.data.toList = l) (hn : s.size ≤ 9223372036854775807) :
    Calls Try.prog 29 #[.string s] w fun e w' => e = .returned (.bool (nameB l)) ∧ w = w' := by
  have hz : s.size = l.length := by subst hs; rfl
  have HS := Lib.hid hs
  have HZ := Lib.hid hz
  clear hs hz
  go_enter Try.func29, Try.ntmps29
  go_wp2_with fail
  go_loop [3] (fun i => ∃ k : Nat, i = .int .i64 (k : Int) ∧ k ≤ s.size ∧ Hid (∀ j, j < k → nameC (l.getD j 0) = true)) (fun i => s.size - (intOf i).toNat)
  case atStart => exact ⟨0, rfl, by omega, fun j hj => by omega⟩
  case round =>
    obtain ⟨k, rfl, hk, hok⟩ := hrel
    by_cases hlt : k < s.size
    · have hbl : k < l.length := by have := HZ.out; omega
      have hgd := getD_strD HS.out hlt
      have HBAD := Lib.hid (@nameB_bad l k hbl)
      have HOK2 : Hid (nameC (l.getD k 0) = true → ∀ j, j < k + 1 → nameC (l.getD j 0) = true) := fun h j hj => by
        by_cases hjk : j = k
        · subst hjk; exact h
        · exact hok.out j (by omega)
      generalize l.getD k 0 = ch at *
      have hcb := ch.toNat_lt
      have hlti : (k : Int) < (s.size : Int) := by omega
      have HC : nameC ch = (decide (97 ≤ ch.toNat) && decide (ch.toNat ≤ 122) || (decide (48 ≤ ch.toNat) && decide (ch.toNat ≤ 57)) || decide (ch.toNat = 46)) := rfl
      cases hc : nameC ch with
      | true =>
        have HOK3 := Lib.hid (HOK2.out hc)
        have hcs : (97 ≤ ch.toNat ∧ ch.toNat ≤ 122) ∨ (48 ≤ ch.toNat ∧ ch.toNat ≤ 57) ∨ ch.toNat = 46 := by
          rw [hc] at HC
          have := HC.symm
          simp only [Bool.or_eq_true, Bool.and_eq_true, decide_eq_true_eq] at this
          omega
        clear HC hc HOK2 HBAD
        rcases hcs with ⟨g1, g2⟩ | ⟨g1, g2⟩ | g1
        · have e1 : (97 : Int) ≤ (ch.toNat : Int) := by omega
          have e2 : (ch.toNat : Int) ≤ 122 := by omega
          go_wp2_with fail
          go_round
          case rel => exact ⟨k + 1, by go_num, by omega, HOK3⟩
          case measure => simp [intOf]; omega
        · have e1 : ¬ (97 : Int) ≤ (ch.toNat : Int) := by omega
          have e2 : (48 : Int) ≤ (ch.toNat : Int) := by omega
          have e3 : (ch.toNat : Int) ≤ 57 := by omega
          go_wp2_with fail
          go_round
          case rel => exact ⟨k + 1, by go_num, by omega, HOK3⟩
          case measure => simp [intOf]; omega
        · have e1 : ¬ (97 : Int) ≤ (ch.toNat : Int) := by omega
          have e2 : ¬ (48 : Int) ≤ (ch.toNat : Int) := by omega
          have e3 : ((ch.toNat : Int) == 46) = true := by rw [beq_iff_eq]; omega
          have e4 : (ch.toNat : Int) = 46 := by omega
          clear g1
          go_wp2_with fail
          go_round
          case rel => exact ⟨k + 1, by go_num, by omega, HOK3⟩
          case measure => simp [intOf]; omega
      | false =>
        have HB2 := Lib.hid (HBAD.out hc)
        have hcs : ¬ (97 ≤ ch.toNat ∧ ch.toNat ≤ 122) ∧ ¬ (48 ≤ ch.toNat ∧ ch.toNat ≤ 57) ∧ ¬ ch.toNat = 46 := by
          rw [hc] at HC
          have := HC.symm
          simp only [Bool.or_eq_false_iff, Bool.and_eq_false_iff, decide_eq_false_iff_not] at this
          omega
        clear HC hc HOK2 HBAD
        obtain ⟨g1, g2, g3⟩ := hcs
        have e6 : ((ch.toNat : Int) == 46) = false := by rw [beq_eq_false_iff_ne]; omega
        have e7 : ¬ (ch.toNat : Int) = 46 := by omega
        by_cases h1 : 97 ≤ ch.toNat
        · have e1 : (97 : Int) ≤ (ch.toNat : Int) := by omega
          have e2 : ¬ (ch.toNat : Int) ≤ 122 := by omega
          have e3 : (48 : Int) ≤ (ch.toNat : Int) := by omega
          have e4 : ¬ (ch.toNat : Int) ≤ 57 := by omega
          clear g1 g2 g3
          go_wp2_with fail
          go_ret
          rw [HB2.out]
          exact ⟨rfl, rfl⟩
        · have e1 : ¬ (97 : Int) ≤ (ch.toNat : Int) := by omega
          by_cases h2 : 48 ≤ ch.toNat
          · have e3 : (48 : Int) ≤ (ch.toNat : Int) := by omega
            have e4 : ¬ (ch.toNat : Int) ≤ 57 := by omega
            clear g1 g2 g3
            go_wp2_with fail
            go_ret
            rw [HB2.out]
            exact ⟨rfl, rfl⟩
          · have e3 : ¬ (48 : Int) ≤ (ch.toNat : Int) := by omega
            clear g1 g2 g3
            go_wp2_with fail
            go_ret
            rw [HB2.out]
            exact ⟨rfl, rfl⟩
    · have hlti : ¬ (k : Int) < (s.size : Int) := by omega
      have hall : l.all nameC = true := by
        rw [List.all_eq_true]
        intro c hc
        obtain ⟨j, hj, rfl⟩ := List.getElem_of_mem hc
        have h := hok.out j (by have := HZ.out; omega)
        rwa [List.getD_eq_getElem?_getD, List.getElem?_eq_getElem hj] at h
      have hb : nameB l = (decide (1 ≤ s.size) && decide (s.size ≤ 16)) := by
        unfold nameB
        rw [hall, HZ.out, Bool.and_true]
      have HB := Lib.hid hb
      clear hb hall
      by_cases h1 : 1 ≤ s.size
      · have e1 : (1 : Int) ≤ (s.size : Int) := by omega
        by_cases h2 : s.size ≤ 16
        · have e2 : (s.size : Int) ≤ 16 := by omega
          go_wp2_with fail
          go_ret
          rw [HB.out, decide_eq_true h1, decide_eq_true h2]
          exact ⟨rfl, rfl⟩
        · have e2 : ¬ (s.size : Int) ≤ 16 := by omega
          go_wp2_with fail
          go_ret
          rw [HB.out, decide_eq_true h1, decide_eq_false h2]
          exact ⟨rfl, rfl⟩
      · have e1 : ¬ (1 : Int) ≤ (s.size : Int) := by omega
        go_wp2_with fail
        go_ret
        rw [HB.out, decide_eq_false h1]
        exact ⟨rfl, rfl⟩
theorem rok4_any (l : List UInt8) (w : World) (hn : l.length ≤ 9223372036854775807) : Calls Try.prog 29 #[.string (tx l)] w fun e w' => e = .returned (.bool (nameB l)) ∧ w = w' :=
  rok4_at (tx l) l w (tx_list l) (by rw [tx_size]; exact hn)
theorem ten_cut : ∀ i : Fin 10, (({ data := #[48, 49, 50, 51, 52, 53, 54, 55, 56, 57] } : ByteArray).extract i.val (i.val + 1)) = tx [dgt i.val] := by
  intro i
  refine tx_of ?_
  match i with
  | ⟨0, _⟩ => rfl
  | ⟨1, _⟩ => rfl
  | ⟨2, _⟩ => rfl
  | ⟨3, _⟩ => rfl
  | ⟨4, _⟩ => rfl
  | ⟨5, _⟩ => rfl
  | ⟨6, _⟩ => rfl
  | ⟨7, _⟩ => rfl
  | ⟨8, _⟩ => rfl
  | ⟨9, _⟩ => rfl
  | ⟨n + 10, h⟩ => exact absurd h (by omega)
set_option maxRecDepth 100000 in
set_option maxHeartbeats 1600000 in
theorem digits_any (i : Nat) (w : World) (hi : i < 16) : Calls Try.prog 28 #[.int .i64 (i : Int)] w fun e w' => e = .returned (.string (tx [dgt ((i + 10) / 10), dgt ((i + 10) % 10)])) ∧ Up w w' := by
  obtain ⟨n, hn⟩ : ∃ n, n = i + 10 := ⟨_, rfl⟩
  obtain ⟨a, ha⟩ : ∃ a, a = n / 10 := ⟨_, rfl⟩
  obtain ⟨b, hb⟩ : ∃ b, b = n % 10 := ⟨_, rfl⟩
  rw [← hn, ← ha, ← hb]
  have e1 : (i : Int) + 10 = (n : Int) := by omega
  have e2 : IntKind.i64.wrap (n : Int) = (n : Int) := IntWalk.i64_in _ (by omega)
  have e3 : (n : Int) / 10 = (a : Int) := by omega
  have e4 : Int.tdiv (n : Int) 10 = (a : Int) := by rw [Int.tdiv_eq_ediv_of_nonneg (by omega)]; exact e3
  have e5 : (n : Int) % 10 = (b : Int) := by omega
  have e6 : Int.tmod (n : Int) 10 = (b : Int) := by rw [Int.tmod_eq_emod_of_nonneg (by omega)]; exact e5
  have e7 : IntKind.i64.wrap (a : Int) = (a : Int) := IntWalk.i64_in _ (by omega)
  have e8 : IntKind.i64.wrap (b : Int) = (b : Int) := IntWalk.i64_in _ (by omega)
  have a9 : a < 10 := by omega
  have b9 : b < 10 := by omega
  have e9 : IntKind.i64.wrap ((a : Int) + 1) = (a : Int) + 1 := IntWalk.i64_in _ (by omega)
  have e10 : IntKind.i64.wrap ((b : Int) + 1) = (b : Int) + 1 := IntWalk.i64_in _ (by omega)
  have h1 := ten_cut ⟨a, a9⟩
  have h2 := ten_cut ⟨b, b9⟩
  simp only at h1 h2
  have hcat : tx [dgt a] ++ tx [dgt b] = tx [dgt a, dgt b] := tx_append' _ _
  have hzz : ¬ (9223372036854775807 < (tx [dgt a]).size + (tx [dgt b]).size) := by rw [tx_size, tx_size]; simp
  clear hn ha hb hi
  go_enter Try.func28, Try.ntmps28
  go_wp2_with fail
  apply Rg.region_up (fun W => Up w W) (by kernel_rfl) (by kernel_rfl) (fun _ h => h)
  · intro QN hQN
    iterate 5 (apply Rg.RK.ok; (· intro vs w1 hS; go_simp; with_reducible rfl); (· rfl); simp only [Act.put, List.setIfInBounds_toArray, List.set_cons_zero, List.set_cons_succ, Nat.reduceAdd])
    apply Rg.RK.ok (v := .string (tx [dgt a]))
    · intro vs w1 hS
      go_simp
      rw [if_pos (by omega), if_pos (by omega)]
    · rfl
    simp only [Act.put, List.setIfInBounds_toArray, List.set_cons_zero, List.set_cons_succ, Nat.reduceAdd]
    iterate 5 (apply Rg.RK.ok; (· intro vs w1 hS; go_simp; with_reducible rfl); (· rfl); simp only [Act.put, List.setIfInBounds_toArray, List.set_cons_zero, List.set_cons_succ, Nat.reduceAdd])
    apply Rg.RK.ok (v := .string (tx [dgt b]))
    · intro vs w1 hS
      go_simp
      rw [if_pos (by omega), if_pos (by omega)]
    · rfl
    simp only [Act.put, List.setIfInBounds_toArray, List.set_cons_zero, List.set_cons_succ, Nat.reduceAdd]
    iterate 2 (apply Rg.RK.ok; (· intro vs w1 hS; go_simp; with_reducible rfl); (· rfl); simp only [Act.put, List.setIfInBounds_toArray, List.set_cons_zero, List.set_cons_succ, Nat.reduceAdd])
    apply Rg.RK.fin []
    intro vs w1 hK hS _
    refine hQN.out _ _ ?_
    clear hQN
    go_wp2_with fail
    go_ret
    exact ⟨rfl, hS⟩
  · kernel_rfl
end Go.Proofs.Ytebhhfmekmpnkaa

/-
  The walks of the document's disk: Used, Stop, Read, Sync, SyncDir.
-/
namespace Go.Proofs.Ytebhhfmekmpnkaa
open Go.RowKit Go.Maps
set_option linter.unusedVariables false
set_option linter.unusedSimpArgs false

def usedRO (r : Rk) : Nat := if r.dead = true then 0 else usedR r
set_option maxRecDepth 100000 in
theorem rusedO_any {B : Nat} {h : Rh} {r : Rk} {w : World} (H : RkAt B h r w) (hok : RkB r) :
    Calls Try.prog 59 #[.pointer (some ⟨h.g, 0, none⟩)] w fun e w' => e = .returned (.int .i64 (usedRO r : Int)) ∧ Up w w' := by
  have c8 : w.cell? ⟨h.g, 8, none⟩ = some (.bool r.dead) := blk_cell H.hd 8
  have hu : usedRO r = if r.dead = true then 0 else usedR r := rfl
  have HU := Lib.hid hu
  clear hu
  cases hd : r.dead with
  | true =>
    rw [hd] at c8
    have HU2 := Lib.hid (HU.out.trans (by rw [hd, if_pos rfl]))
    clear hd
    go_enter Try.func59, Try.ntmps59
    go_wp2_with fail
    go_ret
    rw [HU2.out]
    exact ⟨rfl, Up.refl _⟩
  | false =>
    rw [hd] at c8
    have HU2 := Lib.hid (HU.out.trans (by rw [hd, if_neg (by decide)]))
    clear hd
    go_enter Try.func59, Try.ntmps59
    go_wp2_with fail
    refine (rused_any H hok).mono ?_
    rintro e w1 ⟨rfl, hu1⟩
    go_wp2_with fail
    go_ret
    rw [HU2.out]
    exact ⟨rfl, hu1⟩
def stopR (r : Rk) (n : Int) : Rk := { r with left := max n (-1), dead := r.dead || decide (n = 0) }
set_option maxRecDepth 100000 in
theorem rstop_any {B : Nat} {h : Rh} {r : Rk} {w : World} (H : RkAt B h r w) (n : Int) :
    Calls Try.prog 54 #[.pointer (some ⟨h.g, 0, none⟩), .int .i64 n] w fun e w' => e = .returned (.tuple #[]) ∧ RkAt B h (stopR r n) w' ∧ RkTo h w h w' := by
  obtain ⟨m, hm⟩ : ∃ m : Int, m = max n (-1) := ⟨_, rfl⟩
  obtain ⟨H1, D1⟩ := H.setHead { r with left := m } 6 (.int .i64 m) (by simp [rcs]) rfl rfl rfl rfl
  obtain ⟨H2, D2⟩ := H1.setHead { r with left := m, dead := r.dead || decide (n = 0) } 8 (.bool (r.dead || decide (n = 0))) (by simp [rcs]) rfl rfl rfl rfl
  have hst : stopR r n = { r with left := m, dead := r.dead || decide (n = 0) } := by rw [hm]; rfl
  have D12 := D1.trans D2
  have c6 : w.cell? ⟨h.g, 6, none⟩ = some (.int .i64 r.left) := blk_cell H.hd 6
  have z6 := blk_free H.hd 6
  have c8 : (w.setCell ⟨h.g, 6, none⟩ (.int .i64 m)).cell? ⟨h.g, 8, none⟩ = some (.bool r.dead) := blk_cell H1.hd 8
  have z8 := blk_free H1.hd 8
  have HST := Lib.hid hst
  have HM := Lib.hid hm
  have HDD := Lib.hid D12
  have HH2 := Lib.hid H2
  clear hst hm D12 D1 D2 H1 H2
  by_cases hq : n < -1
  · have hm0 : m = -1 := by have := HM.out; omega
    subst hm0
    have hmx : max n (-1) = -1 := by omega
    clear HM
    cases hdd : r.dead with
    | true =>
      rw [hdd] at c8 HH2 HDD
      go_enter Try.func54, Try.ntmps54
      go_wp2_with fail
      refine bodyPost_end (results_none rfl _ _ _) rfl ⟨rfl, ?_, ?_⟩
      · rw [HST.out, hdd]; exact HH2.out
      · exact HDD.out
    | false =>
      rw [hdd] at c8 HH2 HDD
      have hn0 : (n == 0) = false := by rw [beq_eq_false_iff_ne]; omega
      have hn1 : decide (n = 0) = false := by rw [decide_eq_false_iff_not]; omega
      rw [hn1] at HH2 HDD
      have HN1 := Lib.hid hn1
      clear hn1
      go_enter Try.func54, Try.ntmps54
      go_wp2_with fail
      refine bodyPost_end (results_none rfl _ _ _) rfl ⟨rfl, ?_, ?_⟩
      · rw [HST.out, hdd, HN1.out]; exact HH2.out
      · exact HDD.out
  · have hm0 : m = n := by have := HM.out; omega
    subst hm0
    have hq2 : -1 ≤ m := by omega
    have hmx : max m (-1) = m := by omega
    clear HM
    cases hdd : r.dead with
    | true =>
      rw [hdd] at c8 HH2 HDD
      go_enter Try.func54, Try.ntmps54
      go_wp2_with fail
      refine bodyPost_end (results_none rfl _ _ _) rfl ⟨rfl, ?_, ?_⟩
      · rw [HST.out, hdd]; exact HH2.out
      · exact HDD.out
    | false =>
      rw [hdd] at c8 HH2 HDD
      by_cases hz : m = 0
      · have hn0 : (m == 0) = true := by rw [beq_iff_eq]; exact hz
        have hn1 : decide (m = 0) = true := decide_eq_true hz
        rw [hn1] at HH2 HDD
        have HN1 := Lib.hid hn1
        clear hn1 hz
        go_enter Try.func54, Try.ntmps54
        go_wp2_with fail
        refine bodyPost_end (results_none rfl _ _ _) rfl ⟨rfl, ?_, ?_⟩
        · rw [HST.out, hdd, HN1.out]; exact HH2.out
        · exact HDD.out
      · have hn0 : (m == 0) = false := by rw [beq_eq_false_iff_ne]; exact hz
        have hn1 : decide (m = 0) = false := decide_eq_false hz
        rw [hn1] at HH2 HDD
        have HN1 := Lib.hid hn1
        clear hn1 hz
        go_enter Try.func54, Try.ntmps54
        go_wp2_with fail
        refine bodyPost_end (results_none rfl _ _ _) rfl ⟨rfl, ?_, ?_⟩
        · rw [HST.out, hdd, HN1.out]; exact HH2.out
        · exact HDD.out
/-- the number of a name's file -/
def fidR (r : Rk) (s : List UInt8) : Nat := (r.now.getD (ixN r.now s) ([], 0)).2
def filR (r : Rk) (i : Nat) : Fi := r.files.getD i ⟨[], 0⟩
theorem fidR_eq {r : Rk} {s pn : List UInt8} {pf : Nat} (h : r.now[ixN r.now s]? = some (pn, pf)) : fidR r s = pf := by unfold fidR; rw [List.getD_eq_getElem?_getD, h]; rfl
theorem filR_eq {r : Rk} {i : Nat} {f : Fi} (h : r.files[i]? = some f) : filR r i = f := by unfold filR; rw [List.getD_eq_getElem?_getD, h]; rfl
def syncDirR1 (r : Rk) : Rk × Nat := ({ r with last := r.now, ops := [] }, 0)
def syncDirR (r : Rk) : Rk × Nat := afterR [] r syncDirR1
set_option maxRecDepth 100000 in
theorem rsyncDir_any {B : Nat} {h : Rh} {r : Rk} {w : World} (H : RkAt B h r w) (hok : RkOk r) :
    Calls Try.prog 52 #[.pointer (some ⟨h.g, 0, none⟩)] w fun e w' => ∃ h', e = .returned (.int .i64 ((syncDirR r).2 : Int)) ∧ RkAt B h' (syncDirR r).1 w' ∧ RkTo h w h' w' := by
  have HCR : Hid (syncDirR r = afterR [] r syncDirR1) := Lib.hid rfl
  have HNA : Hid (([] : List (List UInt8)).all nameB = true) := Lib.hid rfl
  go_enter Try.func52, Try.ntmps52
  go_wp2_with fail
  refine (rcall_any H hok).mono ?_
  rintro e w1 ⟨rfl, H1, D1⟩
  have hb1 := hok.toRkB.same (callR_same r)
  have HSM := Lib.hid (callR_same r)
  obtain ⟨rr, hrr⟩ : ∃ rr, callR r = rr := ⟨_, rfl⟩
  rw [hrr] at H1 hb1 HSM ⊢
  obtain ⟨r1, ec⟩ := rr
  (try dsimp only at H1 hb1 HSM ⊢)
  by_cases he : ec ≠ 0
  · have heb : ((ec : Int) != 0) = true := by rw [bne_iff_ne]; omega
    have hc2 := HCR.out
    rw [afterR_err HNA.out hrr he] at hc2
    have HC2 := Lib.hid hc2
    clear hc2 HCR hrr he
    go_wp2_with fail
    go_ret
    rw [HC2.out]
    exact ⟨h, rfl, H1, D1⟩
  have heb : ((ec : Int) != 0) = false := by rw [bne_eq_false_iff_eq]; omega
  have hc2 := HCR.out
  rw [afterR_ok HNA.out hrr he] at hc2
  have HC2 := Lib.hid hc2
  clear hc2 HCR hrr he HNA
  have c2 : w1.cell? ⟨h.g, 2, none⟩ = some (.slice h.na r1.now.length h.nc) := blk_cell H1.hd 2
  have z3 := blk_free H1.hd 3
  have c3 : w1.cell? ⟨h.g, 3, none⟩ = some (.slice h.la r1.last.length h.lc) := blk_cell H1.hd 3
  have c4 : w1.cell? ⟨h.g, 4, none⟩ = some (.slice h.oa r1.ops.length h.oc) := blk_cell H1.hd 4
  obtain ⟨H2, D2⟩ := H1.setLast r1.now H1.now (m := w1.heap.size) (fun k hk => .inl (.inr (.inr (.inl hk)))) w1 (Nat.le_refl _) (Up.refl _)
  have z4 := blk_free H2.hd 4
  obtain ⟨H3, D3⟩ := H2.setOps [] (A := none) (c := 0) (World.ownsRow_nil _ _ _ _) (Rg.Keeps.refl _ _) (m := (w1.setCell ⟨h.g, 3, none⟩ (.slice h.na r1.now.length h.nc)).heap.size) (fun k hk => by obtain ⟨a, ha, _⟩ := hk; cases ha) (w1.setCell ⟨h.g, 3, none⟩ (.slice h.na r1.now.length h.nc)) (Nat.le_refl _) (Up.refl _)
  have D4 := D1.trans (D2.trans D3)
  have HH3 := Lib.hid H3
  have HD4 := Lib.hid D4
  clear H2 H3 D2 D3 D4
  go_wp2_with fail
  go_ret
  rw [HC2.out]
  first | exact ⟨_, rfl, HH3.out, HD4.out⟩ | exact ⟨rfl, _, HH3.out, HD4.out⟩
def syncR1 (s : List UInt8) (r : Rk) : Rk × Nat := if ixN r.now s < r.now.length then ({ r with files := r.files.set (fidR r s) ⟨(filR r (fidR r s)).b, (filR r (fidR r s)).b.length⟩ }, 0) else (r, 11)
def syncR (r : Rk) (s : List UInt8) : Rk × Nat := afterR [s] r (syncR1 s)
set_option maxRecDepth 100000 in
set_option maxHeartbeats 1600000 in
theorem rsync_any {B : Nat} {h : Rh} {r : Rk} {w : World} (H : RkAt B h r w) (hok : RkOk r) (s : List UInt8) (hs : s.length ≤ 9223372036854775807) :
    Calls Try.prog 49 #[.pointer (some ⟨h.g, 0, none⟩), .string (tx s)] w fun e w' => ∃ h', e = .returned (.int .i64 ((syncR r s).2 : Int)) ∧ RkAt B h' (syncR r s).1 w' ∧ RkTo h w h' w' := by
  have HCR : Hid (syncR r s = afterR [s] r (syncR1 s)) := Lib.hid rfl
  go_enter Try.func49, Try.ntmps49
  go_wp2_with fail
  refine (rok4_any s _ hs).mono ?_
  rintro e wz ⟨rfl, rfl⟩
  rcases hnb : nameB s with _ | _
  · have hc2 := HCR.out
    rw [afterR_bad (by simp [hnb])] at hc2
    have HC2 := Lib.hid hc2
    clear hc2 HCR
    go_wp2_with fail
    go_ret
    rw [HC2.out]
    exact ⟨h, rfl, H, RkTo.refl _ _⟩
  have hnall : [s].all nameB = true := by simp [hnb]
  have HNA := Lib.hid hnall
  clear hnb hnall
  go_wp2_with fail
  refine (rcall_any H hok).mono ?_
  rintro e w1 ⟨rfl, H1, D1⟩
  have hb1 := hok.toRkB.same (callR_same r)
  have HSM := Lib.hid (callR_same r)
  obtain ⟨rr, hrr⟩ : ∃ rr, callR r = rr := ⟨_, rfl⟩
  rw [hrr] at H1 hb1 HSM ⊢
  obtain ⟨r1, ec⟩ := rr
  (try dsimp only at H1 hb1 HSM ⊢)
  by_cases he : ec ≠ 0
  · have heb : ((ec : Int) != 0) = true := by rw [bne_iff_ne]; omega
    have hc2 := HCR.out
    rw [afterR_err HNA.out hrr he] at hc2
    have HC2 := Lib.hid hc2
    clear hc2 HCR hrr he
    go_wp2_with fail
    go_ret
    rw [HC2.out]
    exact ⟨h, rfl, H1, D1⟩
  have heb : ((ec : Int) != 0) = false := by rw [bne_eq_false_iff_eq]; omega
  have hc2 := HCR.out
  rw [afterR_ok HNA.out hrr he] at hc2
  have HC2 := Lib.hid hc2
  clear hc2 HCR hrr he HNA
  have c2 : w1.cell? ⟨h.g, 2, none⟩ = some (.slice h.na r1.now.length h.nc) := blk_cell H1.hd 2
  have hxb : ∀ A n c, Value.slice A n c = Value.slice A n c := fun _ _ _ => rfl
  go_wp2_with fail
  refine (rat_any h.na r1.now.length h.nc r1.now s w1 (Rd.own H1.now) (Nat.le_trans hb1.nn (by decide))).mono ?_
  rintro e w2 ⟨rfl, rfl⟩
  clear c2 hxb
  by_cases hx : ixN r1.now s < r1.now.length
  · obtain ⟨b, o, gF, p, f, hna, hfa, hp, hf, hpl, k1, k2, k3, k4, k5⟩ := (H1).file_ptr hb1 hx
    obtain ⟨pn, pf⟩ := p
    obtain ⟨fb, fl⟩ := f
    (try dsimp only at hp hf hpl k3 k4 k5)
    have hd1 := decide_eq_true hx
    have hd2 := decide_eq_true hpl
    have hS : ∀ W, Up (w1) W → Up (w1) W := fun _ h => h
    have hat : atR r1.now s = (ixN r1.now s : Int) := by unfold atR; rw [if_pos hx]
    have hc3 : syncR r s = ({ r1 with files := r1.files.set pf ⟨fb, fb.length⟩ }, 0) := by
      rw [HC2.out]
      unfold syncR1
      rw [if_pos hx, fidR_eq hp, filR_eq hf]
    have HC3 := Lib.hid hc3
    have HF := Lib.hid hf
    have htx : (tx fb).size = fb.length := tx_size fb
    have hk0 : ¬ (ixN r1.now s : Int) < 0 := by omega
    rw [hat]
    generalize ixN r1.now s = k at *
    clear hc3 hf hp hat HC2 HSM
    go_wp2_with fail
    apply Rg.region_up _ (by kernel_rfl) (by kernel_rfl) hS
    · intro QN hQN
      iterate 14 (apply Rg.RK.ok; (· intro vs w1 hS; go_simp; with_reducible rfl); (· rfl); simp only [Act.put, List.setIfInBounds_toArray, List.set_cons_zero, List.set_cons_succ, Nat.reduceAdd])
      apply Rg.RK.fin []
      intro vs w9 hK hU9 _
      refine hQN.out _ _ ?_
      clear hQN
      have k4' := k4 w9 hU9
      have k5' := k5 w9 hU9
      have H2 := H1.up hU9
      have D2 := D1.trans (RkTo.up hU9)
      have z9 := H2.fz (j := pf * 2 + 1) hfa
      obtain ⟨H3, D3⟩ := H2.setFi (u := .int .i64 (fb.length : Int)) (j := 1) hfa HF.out (by omega) ⟨fb, fb.length⟩ rfl
      have D4 := D2.trans D3
      have HH3 := Lib.hid H3
      have HD4 := Lib.hid D4
      clear H2 H3 D2 D3 D4 k1 k2 k3 k4 k5 hS hU9 hK
      go_wp2_with fail
      go_ret
      rw [HC3.out]
      exact ⟨h, rfl, HH3.out, HD4.out⟩
    · kernel_rfl
  · have hat : atR r1.now s = -1 := by unfold atR; rw [if_neg hx]
    have hc3 : syncR r s = (r1, 11) := by
      rw [HC2.out]
      unfold syncR1
      rw [if_neg hx]
    have HC3 := Lib.hid hc3
    rw [hat]
    clear hc3 hat hx
    go_wp2_with fail
    go_ret
    rw [HC3.out]
    exact ⟨h, rfl, H1, D1⟩
end Go.Proofs.Ytebhhfmekmpnkaa

/-
  The walks of the document's disk: Read, Remove.
-/
namespace Go.Proofs.Ytebhhfmekmpnkaa
open Go.RowKit Go.Maps
set_option linter.unusedVariables false
set_option linter.unusedSimpArgs false

def readR (r : Rk) (s : List UInt8) : List UInt8 × Nat :=
  if nameB s = false then ([], 10) else if r.dead = true then ([], 50) else if ixN r.now s < r.now.length then ((filR r (fidR r s)).b, 0) else ([], 11)
set_option maxRecDepth 100000 in
set_option maxHeartbeats 1600000 in
theorem rread_any {B : Nat} {h : Rh} {r : Rk} {w : World} (H : RkAt B h r w) (hb : RkB r) (s : List UInt8) (hs : s.length ≤ 9223372036854775807) :
    Calls Try.prog 53 #[.pointer (some ⟨h.g, 0, none⟩), .string (tx s)] w fun e w' => e = .returned (.tuple #[.string (tx (readR r s).1), .int .i64 ((readR r s).2 : Int)]) ∧ Up w w' := by
  have hrd : readR r s = if nameB s = false then ([], 10) else if r.dead = true then ([], 50) else if ixN r.now s < r.now.length then ((filR r (fidR r s)).b, 0) else ([], 11) := rfl
  have HRD := Lib.hid hrd
  have c2 : w.cell? ⟨h.g, 2, none⟩ = some (.slice h.na r.now.length h.nc) := blk_cell H.hd 2
  have c8 : w.cell? ⟨h.g, 8, none⟩ = some (.bool r.dead) := blk_cell H.hd 8
  clear hrd
  go_enter Try.func53, Try.ntmps53
  go_wp2_with fail
  refine (rat_any h.na r.now.length h.nc r.now s w (Rd.own H.now) (Nat.le_trans hb.nn (by decide))).mono ?_
  rintro e w1 ⟨rfl, rfl⟩
  go_wp2_with fail
  refine (rok4_any s _ hs).mono ?_
  rintro e wz ⟨rfl, rfl⟩
  rcases hnb : nameB s with _ | _
  · have hc := HRD.out
    rw [if_pos hnb] at hc
    have HC := Lib.hid hc
    clear hc HRD hnb
    go_wp2_with fail
    refine bodyPost_ret (v := .tuple #[.string (tx []), .int .i64 10]) (by simp [results, Try.results53, go_sem]; rfl) rfl ?_
    rw [HC.out]
    exact ⟨rfl, Up.refl _⟩
  have hc := HRD.out
  rw [if_neg (by rw [hnb]; decide)] at hc
  have HC := Lib.hid hc
  clear hc HRD hnb
  rcases hdd : r.dead with _ | _
  · have hc := HC.out
    rw [if_neg (by rw [hdd]; decide)] at hc
    have HC2 := Lib.hid hc
    rw [hdd] at c8
    clear hc HC hdd
    by_cases hx : ixN r.now s < r.now.length
    · obtain ⟨b, o, gF, p, f, hna, hfa, hp, hf, hpl, k1, k2, k3, k4, k5⟩ := (H).file_ptr hb hx
      obtain ⟨pn, pf⟩ := p
      obtain ⟨fb, fl⟩ := f
      (try dsimp only at hp hf hpl k3 k4 k5)
      have hd1 := decide_eq_true hx
      have hd2 := decide_eq_true hpl
      have hS : ∀ W, Up (w) W → Up (w) W := fun _ h => h
      have hat : atR r.now s = (ixN r.now s : Int) := by unfold atR; rw [if_pos hx]
      have hc3 : readR r s = (fb, 0) := by
        rw [HC2.out, if_pos hx, fidR_eq hp, filR_eq hf]
      have HC3 := Lib.hid hc3
      have hk0 : ¬ (ixN r.now s : Int) < 0 := by omega
      rw [hat]
      generalize ixN r.now s = k at *
      clear hc3 hf hp hat HC2 c2
      go_wp2_with fail
      apply Rg.region_up _ (by kernel_rfl) (by kernel_rfl) hS
      · intro QN hQN
        iterate 17 (apply Rg.RK.ok; (· intro vs w1 hS; go_simp; with_reducible rfl); (· rfl); simp only [Act.put, List.setIfInBounds_toArray, List.set_cons_zero, List.set_cons_succ, Nat.reduceAdd])
        apply Rg.RK.fin []
        intro vs w9 hK hU9 _
        refine hQN.out _ _ ?_
        clear hQN
        clear k1 k2 k3 k4 k5 hS hK
        go_wp2_with fail
        refine bodyPost_ret (v := .tuple #[.string (tx fb), .int .i64 0]) (by simp [results, Try.results53, go_sem]) rfl ?_
        rw [HC3.out]
        exact ⟨rfl, hU9⟩
      · kernel_rfl
    · have hat : atR r.now s = -1 := by unfold atR; rw [if_neg hx]
      have hc3 : readR r s = ([], 11) := by rw [HC2.out, if_neg hx]
      have HC3 := Lib.hid hc3
      rw [hat]
      clear hc3 hat hx
      go_wp2_with fail
      refine bodyPost_ret (v := .tuple #[.string (tx []), .int .i64 11]) (by simp [results, Try.results53, go_sem]; rfl) rfl ?_
      rw [HC3.out]
      exact ⟨rfl, Up.refl _⟩
  · have hc := HC.out
    rw [if_pos hdd] at hc
    have HC2 := Lib.hid hc
    rw [hdd] at c8
    clear hc HC hdd
    go_wp2_with fail
    refine bodyPost_ret (v := .tuple #[.string (tx []), .int .i64 50]) (by simp [results, Try.results53, go_sem]; rfl) rfl ?_
    rw [HC2.out]
    exact ⟨rfl, Up.refl _⟩
def removeR1 (s : List UInt8) (r : Rk) : Rk × Nat := if ixN r.now s < r.now.length then ({ r with now := withoutR r.now s, ops := r.ops ++ [⟨2, 0, s, []⟩] }, 0) else (r, 11)
def removeR (r : Rk) (s : List UInt8) : Rk × Nat := afterR [s] r (removeR1 s)
set_option maxRecDepth 100000 in
set_option maxHeartbeats 1600000 in
theorem rremove_any {B : Nat} {h : Rh} {r : Rk} {w : World} (H : RkAt B h r w) (hok : RkOk r) (s : List UInt8) (hs : s.length ≤ 9223372036854775807) :
    Calls Try.prog 51 #[.pointer (some ⟨h.g, 0, none⟩), .string (tx s)] w fun e w' => ∃ h', e = .returned (.int .i64 ((removeR r s).2 : Int)) ∧ RkAt B h' (removeR r s).1 w' ∧ RkTo h w h' w' := by
  have HCR : Hid (removeR r s = afterR [s] r (removeR1 s)) := Lib.hid rfl
  go_enter Try.func51, Try.ntmps51
  go_wp2_with fail
  refine (rok4_any s _ hs).mono ?_
  rintro e wz ⟨rfl, rfl⟩
  rcases hnb : nameB s with _ | _
  · have hc2 := HCR.out
    rw [afterR_bad (by simp [hnb])] at hc2
    have HC2 := Lib.hid hc2
    clear hc2 HCR
    go_wp2_with fail
    go_ret
    rw [HC2.out]
    exact ⟨h, rfl, H, RkTo.refl _ _⟩
  have hnall : [s].all nameB = true := by simp [hnb]
  have HNA := Lib.hid hnall
  clear hnb hnall
  go_wp2_with fail
  refine (rcall_any H hok).mono ?_
  rintro e w1 ⟨rfl, H1, D1⟩
  have hb1 := hok.toRkB.same (callR_same r)
  have HSM := Lib.hid (callR_same r)
  obtain ⟨rr, hrr⟩ : ∃ rr, callR r = rr := ⟨_, rfl⟩
  rw [hrr] at H1 hb1 HSM ⊢
  obtain ⟨r1, ec⟩ := rr
  (try dsimp only at H1 hb1 HSM ⊢)
  by_cases he : ec ≠ 0
  · have heb : ((ec : Int) != 0) = true := by rw [bne_iff_ne]; omega
    have hc2 := HCR.out
    rw [afterR_err HNA.out hrr he] at hc2
    have HC2 := Lib.hid hc2
    clear hc2 HCR hrr he
    go_wp2_with fail
    go_ret
    rw [HC2.out]
    exact ⟨h, rfl, H1, D1⟩
  have heb : ((ec : Int) != 0) = false := by rw [bne_eq_false_iff_eq]; omega
  have hc2 := HCR.out
  rw [afterR_ok HNA.out hrr he] at hc2
  have HC2 := Lib.hid hc2
  clear hc2 HCR hrr he HNA
  have c2 : w1.cell? ⟨h.g, 2, none⟩ = some (.slice h.na r1.now.length h.nc) := blk_cell H1.hd 2
  have hxb : ∀ A n c, Value.slice A n c = Value.slice A n c := fun _ _ _ => rfl
  go_wp2_with fail
  refine (rat_any h.na r1.now.length h.nc r1.now s w1 (Rd.own H1.now) (Nat.le_trans hb1.nn (by decide))).mono ?_
  rintro e w2 ⟨rfl, rfl⟩
  clear c2 hxb
  by_cases hx : ixN r1.now s < r1.now.length
  · have hat : atR r1.now s = (ixN r1.now s : Int) := by unfold atR; rw [if_pos hx]
    have hc3 : removeR r s = ({ r1 with now := withoutR r1.now s, ops := r1.ops ++ [⟨2, 0, s, []⟩] }, 0) := by
      rw [HC2.out]
      unfold removeR1
      rw [if_pos hx]
    have HC3 := Lib.hid hc3
    have hk0 : ¬ (ixN r1.now s : Int) < 0 := by omega
    have c2 : w1.cell? ⟨h.g, 2, none⟩ = some (.slice h.na r1.now.length h.nc) := blk_cell H1.hd 2
    have hbw : B ≤ w1.heap.size := by have := H1.lt (.inl rfl); omega
    rw [hat]
    clear hc3 hat HC2 HSM hx
    go_wp2_with fail
    refine (without_any h.na r1.now.length h.nc r1.now s w1 H1.now hbw (Nat.le_trans hb1.nn (by decide))).mono ?_
    rintro e w2 ⟨R2, rc2, rfl, ho2, hu2, hat2⟩
    have H2 := H1.up hu2
    have y2 : w2.cell? ⟨h.g, 2, none⟩ = some (.slice h.na r1.now.length h.nc) := blk_cell H2.hd 2
    have z2 := blk_free H2.hd 2
    obtain ⟨H3, D3⟩ := H2.setNow (withoutR r1.now s) ho2 (fun k hk => (hat2 k hk).imp (fun h9 => .inr (.inr (.inl h9))) id) w1 (Nat.le_refl _) hu2
    have D4 := D1.trans D3
    have HH3 := Lib.hid H3
    have HD4 := Lib.hid D4
    clear H3 D3 D4 hat2 ho2 H2 D1 c2 hbw
    go_upto_region 9 with (fail)
    generalize w2.setCell ⟨h.g, 2, none⟩ (.slice R2 (withoutR r1.now s).length rc2) = w3 at *
    have H3 := HH3.out
    have D3 := HD4.out
    clear HH3 HD4 y2 z2 hu2 H1
    have hno := hb1.no
    have hne : ({ r1 with now := withoutR r1.now s }).ops.length = r1.ops.length := rfl
    have c4 : (w3).cell? ⟨h.g, 4, none⟩ = some (.slice h.oa r1.ops.length h.oc) := blk_cell (H3).hd 4
    have hbw : B ≤ (w3).heap.size := by have := (H3).lt (.inl rfl); omega
    have hop3 : (w3).ownsRow B 105 4 (.slice h.oa r1.ops.length h.oc) r1.ops.length (tcs r1.ops) := (H3).ops
    go_wp2_with (at_builtin; refine wpList_append_rd _ ropsT (own_up hop3 ((Up.refl _).alloc _)) (Rd.made (n := 1) _ _ _ rfl) (tcs_one [⟨2, 0, s, []⟩]) (by omega) (by omega) (by rw [World.size_alloc]; omega) rfl rfl rfl rfl ?_; intro v5 w5 ho5 hg5 hat5; obtain ⟨R5, rc5, rfl⟩ := own_form ho5; obtain ⟨hK5, H5, hua5, hh5⟩ := (H3).opsStep hg5; have y4 := blk_cell hh5 4; have s4 := blk_free hh5 4)
    have hlen : (r1.ops ++ [(⟨2, 0, s, []⟩ : Tn)]).length = r1.ops.length + 1 := by simp
    have hcs5 : w5.ownsRow B 105 4 (.slice R5 (r1.ops ++ [(⟨2, 0, s, []⟩ : Tn)]).length rc5) (r1.ops ++ [(⟨2, 0, s, []⟩ : Tn)]).length (tcs (r1.ops ++ [(⟨2, 0, s, []⟩ : Tn)])) := by
      rw [hlen, tcs_append]; exact ho5
    obtain ⟨H6, D6⟩ := H5.setOps (r1.ops ++ [(⟨2, 0, s, []⟩ : Tn)]) hcs5 hK5 (m := (w3).heap.size) (fun k hk => (at_inA hat5 k hk).imp (fun h9 => .inr (.inr (.inr (.inr h9)))) (fun h9 => by rw [World.size_alloc] at h9; omega)) (w3) (Nat.le_refl _) hua5
    rw [hlen] at H6 D6
    have D7 := (D3).trans D6
    have HH6 := Lib.hid H6
    have HD7 := Lib.hid D7
    clear H5 H6 D6 D7 hcs5 ho5 hg5 hat5 hK5 hh5 H3 D3 hop3
    go_ret
    rw [HC3.out]
    first | exact ⟨_, rfl, HH6.out, HD7.out⟩ | exact ⟨rfl, _, HH6.out, HD7.out⟩
  · have hat : atR r1.now s = -1 := by unfold atR; rw [if_neg hx]
    have hc3 : removeR r s = (r1, 11) := by
      rw [HC2.out]
      unfold removeR1
      rw [if_neg hx]
    have HC3 := Lib.hid hc3
    rw [hat]
    clear hc3 hat hx
    go_wp2_with fail
    go_ret
    rw [HC3.out]
    exact ⟨h, rfl, H1, D1⟩
end Go.Proofs.Ytebhhfmekmpnkaa

/-
  The walk of the document's disk: Append.
-/
namespace Go.Proofs.Ytebhhfmekmpnkaa
open Go.RowKit Go.Maps
set_option linter.unusedVariables false
set_option linter.unusedSimpArgs false

theorem usedR_le {r : Rk} (hb : RkB r) : usedR r ≤ 250000000000 := by
  have h9 := usedRS_le (fun f hf => (hb.fb f hf).1) r.now
  have h8 := hb.nn
  have h7 : usedR r = usedRS r.files r.now := rfl
  rw [h7]
  refine Nat.le_trans h9 ?_
  exact Nat.le_trans (Nat.mul_le_mul_right 250000 h8) (by decide)
def appendR1 (s b : List UInt8) (r : Rk) : Rk × Nat :=
  if ixN r.now s < r.now.length then
    (if 250000 < (filR r (fidR r s)).b.length + b.length then (r, 2)
     else if r.quota < usedR r + b.length then (r, 15)
     else ({ r with files := r.files.set (fidR r s) ⟨(filR r (fidR r s)).b ++ b, (filR r (fidR r s)).last⟩ }, 0))
  else (r, 11)
def appendR (r : Rk) (s b : List UInt8) : Rk × Nat := afterR [s] r (appendR1 s b)
set_option maxRecDepth 100000 in
set_option maxHeartbeats 1600000 in
theorem rappend_any {B : Nat} {h : Rh} {r : Rk} {w : World} (H : RkAt B h r w) (hok : RkOk r) (s b0 : List UInt8) (hs : s.length ≤ 9223372036854775807) (hb0 : b0.length ≤ 250000) :
    Calls Try.prog 48 #[.pointer (some ⟨h.g, 0, none⟩), .string (tx s), .string (tx b0)] w fun e w' => ∃ h', e = .returned (.int .i64 ((appendR r s b0).2 : Int)) ∧ RkAt B h' (appendR r s b0).1 w' ∧ RkTo h w h' w' := by
  have HCR : Hid (appendR r s b0 = afterR [s] r (appendR1 s b0)) := Lib.hid rfl
  have htb : (tx b0).size = b0.length := tx_size b0
  go_enter Try.func48, Try.ntmps48
  go_wp2_with fail
  refine (rok4_any s _ hs).mono ?_
  rintro e wz ⟨rfl, rfl⟩
  rcases hnb : nameB s with _ | _
  · have hc2 := HCR.out
    rw [afterR_bad (by simp [hnb])] at hc2
    have HC2 := Lib.hid hc2
    clear hc2 HCR
    go_wp2_with fail
    go_ret
    rw [HC2.out]
    exact ⟨h, rfl, H, RkTo.refl _ _⟩
  have hnall : [s].all nameB = true := by simp [hnb]
  have HNA := Lib.hid hnall
  clear hnb hnall
  go_wp2_with fail
  refine (rcall_any H hok).mono ?_
  rintro e w1 ⟨rfl, H1, D1⟩
  have hb1 := hok.toRkB.same (callR_same r)
  have HSM := Lib.hid (callR_same r)
  obtain ⟨rr, hrr⟩ : ∃ rr, callR r = rr := ⟨_, rfl⟩
  rw [hrr] at H1 hb1 HSM ⊢
  obtain ⟨r1, ec⟩ := rr
  (try dsimp only at H1 hb1 HSM ⊢)
  by_cases he : ec ≠ 0
  · have heb : ((ec : Int) != 0) = true := by rw [bne_iff_ne]; omega
    have hc2 := HCR.out
    rw [afterR_err HNA.out hrr he] at hc2
    have HC2 := Lib.hid hc2
    clear hc2 HCR hrr he
    go_wp2_with fail
    go_ret
    rw [HC2.out]
    exact ⟨h, rfl, H1, D1⟩
  have heb : ((ec : Int) != 0) = false := by rw [bne_eq_false_iff_eq]; omega
  have hc2 := HCR.out
  rw [afterR_ok HNA.out hrr he] at hc2
  have HC2 := Lib.hid hc2
  clear hc2 HCR hrr he HNA
  have c2 : w1.cell? ⟨h.g, 2, none⟩ = some (.slice h.na r1.now.length h.nc) := blk_cell H1.hd 2
  have hxb : ∀ A n c, Value.slice A n c = Value.slice A n c := fun _ _ _ => rfl
  go_wp2_with fail
  refine (rat_any h.na r1.now.length h.nc r1.now s w1 (Rd.own H1.now) (Nat.le_trans hb1.nn (by decide))).mono ?_
  rintro e w2 ⟨rfl, rfl⟩
  clear c2 hxb
  by_cases hx : ixN r1.now s < r1.now.length
  · obtain ⟨b, o, gF, p, f, hna, hfa, hp, hf, hpl, k1, k2, k3, k4, k5⟩ := (H1).file_ptr hb1 hx
    obtain ⟨pn, pf⟩ := p
    obtain ⟨fb, fl⟩ := f
    (try dsimp only at hp hf hpl k3 k4 k5)
    have hd1 := decide_eq_true hx
    have hd2 := decide_eq_true hpl
    have hS : ∀ W, Up (w1) W → Up (w1) W := fun _ h => h
    have hat : atR r1.now s = (ixN r1.now s : Int) := by unfold atR; rw [if_pos hx]
    have hfl : fb.length ≤ 250000 := (hb1.fb _ (List.mem_of_getElem? hf)).1
    have hus := usedR_le hb1
    have hqq : r1.quota ≤ 9223372036854775807 := hb1.q
    have hc3 : appendR r s b0 = if 250000 < fb.length + b0.length then (r1, 2) else if r1.quota < usedR r1 + b0.length then (r1, 15) else ({ r1 with files := r1.files.set pf ⟨fb ++ b0, fl⟩ }, 0) := by
      rw [HC2.out]
      unfold appendR1
      rw [if_pos hx, fidR_eq hp, filR_eq hf]
    have HC3 := Lib.hid hc3
    have HF := Lib.hid hf
    have htx : (tx fb).size = fb.length := tx_size fb
    have hk0 : ¬ (ixN r1.now s : Int) < 0 := by omega
    have hw1 : IntKind.i64.wrap (250000 - (fb.length : Int)) = 250000 - (fb.length : Int) := IntWalk.i64_in _ (by omega)
    have hw2 : IntKind.i64.wrap ((r1.quota : Int) - (usedR r1 : Int)) = (r1.quota : Int) - (usedR r1 : Int) := IntWalk.i64_in _ (by omega)
    rw [hat]
    generalize ixN r1.now s = k at *
    clear hc3 hf hp hat HC2 HSM
    have HX := Lib.hid H1
    by_cases hlong : 250000 < fb.length + b0.length
    · have d3 : decide ((250000 : Int) - (fb.length : Int) < (b0.length : Int)) = true := by rw [decide_eq_true_iff]; omega
      have hc4 := HC3.out
      rw [if_pos hlong] at hc4
      have HC4 := Lib.hid hc4
      clear hc4 hlong HC3
      go_wp2_with fail
      apply Rg.region_up _ (by kernel_rfl) (by kernel_rfl) hS
      · intro QN hQN
        iterate 21 (apply Rg.RK.ok; (· intro vs w1 hS; go_simp; with_reducible rfl); (· rfl); simp only [Act.put, List.setIfInBounds_toArray, List.set_cons_zero, List.set_cons_succ, Nat.reduceAdd])
        apply Rg.RK.fin []
        intro vs w9 hK hU9 _
        refine hQN.out _ _ ?_
        clear hQN
        have H2 := H1.up hU9
        have D2 := D1.trans (RkTo.up hU9)
        clear k1 k2 k3 k4 k5 hS hK HX
        go_wp2_with fail
        go_ret
        rw [HC4.out]
        exact ⟨h, rfl, H2, D2⟩
      · kernel_rfl
    · have d3 : decide ((250000 : Int) - (fb.length : Int) < (b0.length : Int)) = false := by rw [decide_eq_false_iff_not]; omega
      have hc4 := HC3.out
      rw [if_neg hlong] at hc4
      have HC4 := Lib.hid hc4
      have HLO := Lib.hid hlong
      clear hc4 hlong HC3
      go_wp2_with fail
      apply Rg.region_up _ (by kernel_rfl) (by kernel_rfl) hS
      · intro QN hQN
        iterate 21 (apply Rg.RK.ok; (· intro vs w1 hS; go_simp; with_reducible rfl); (· rfl); simp only [Act.put, List.setIfInBounds_toArray, List.set_cons_zero, List.set_cons_succ, Nat.reduceAdd])
        apply Rg.RK.fin []
        intro vs w9 hK hU9 _
        refine hQN.out _ _ ?_
        clear hQN
        have H2 := H1.up hU9
        have D2 := D1.trans (RkTo.up hU9)
        have c0 : ∀ W, Up w9 W → W.cell? ⟨h.g, 0, none⟩ = some (.int .i64 (r1.quota : Int)) := fun W hU => blk_cell (H2.up hU).hd 0
        have hS2 : ∀ W, Up w9 W → Up w9 W := fun _ h => h
        have K1 := fun W (hU : Up w9 W) => k1 W (hU9.trans hU)
        have K2 := fun W (hU : Up w9 W) => k2 W (hU9.trans hU)
        have K3 := fun W (hU : Up w9 W) => k3 W (hU9.trans hU)
        have K4 := fun W (hU : Up w9 W) => k4 W (hU9.trans hU)
        have K5 := fun W (hU : Up w9 W) => k5 W (hU9.trans hU)
        clear k1 k2 k3 k4 k5 hS hK HX H1 D1 hU9
        have HX := Lib.hid (fun W (hU : Up w9 W) => rused_any (H2.up hU) hb1)
        by_cases hfull : r1.quota < usedR r1 + b0.length
        · have d4 : decide ((r1.quota : Int) - (usedR r1 : Int) < (b0.length : Int)) = true := by rw [decide_eq_true_iff]; omega
          have hc5 := HC4.out
          rw [if_pos hfull] at hc5
          have HC5 := Lib.hid hc5
          clear hc5 hfull HC4
          go_wp2_with fail
          apply Rg.region_up _ (by kernel_rfl) (by kernel_rfl) hS2
          · intro QN hQN
            iterate 7 (apply Rg.RK.ok; (· intro vs w1 hS; go_simp; with_reducible rfl); (· rfl); simp only [Act.put, List.setIfInBounds_toArray, List.set_cons_zero, List.set_cons_succ, Nat.reduceAdd])
            apply Rg.RK.call (.int .i64 (usedR r1 : Int)) []
            · rfl
            · intro vs w1 hK hS _ K hKK
              go_simp
              refine (HX.out w1 hS).mono ?_
              rintro e w2 ⟨rfl, hu2⟩
              exact hKK.out _ hu2
            simp only [Act.put, List.setIfInBounds_toArray, List.set_cons_zero, List.set_cons_succ, Nat.reduceAdd]
            iterate 3 (apply Rg.RK.ok; (· intro vs w1 hS; go_simp; with_reducible rfl); (· rfl); simp only [Act.put, List.setIfInBounds_toArray, List.set_cons_zero, List.set_cons_succ, Nat.reduceAdd])
            apply Rg.RK.fin []
            intro vs w9 hK hU9 _
            refine hQN.out _ _ ?_
            clear hQN
            have H3 := H2.up hU9
            have D3 := D2.trans (RkTo.up hU9)
            clear K1 K2 K3 K4 K5 hS2 hK HX
            go_wp2_with fail
            go_ret
            rw [HC5.out]
            exact ⟨h, rfl, H3, D3⟩
          · kernel_rfl
        · have d4 : decide ((r1.quota : Int) - (usedR r1 : Int) < (b0.length : Int)) = false := by rw [decide_eq_false_iff_not]; omega
          have hc5 := HC4.out
          rw [if_neg hfull] at hc5
          have HC5 := Lib.hid hc5
          clear hc5 hfull HC4
          go_wp2_with fail
          apply Rg.region_up _ (by kernel_rfl) (by kernel_rfl) hS2
          · intro QN hQN
            iterate 7 (apply Rg.RK.ok; (· intro vs w1 hS; go_simp; with_reducible rfl); (· rfl); simp only [Act.put, List.setIfInBounds_toArray, List.set_cons_zero, List.set_cons_succ, Nat.reduceAdd])
            apply Rg.RK.call (.int .i64 (usedR r1 : Int)) []
            · rfl
            · intro vs w1 hK hS _ K hKK
              go_simp
              refine (HX.out w1 hS).mono ?_
              rintro e w2 ⟨rfl, hu2⟩
              exact hKK.out _ hu2
            simp only [Act.put, List.setIfInBounds_toArray, List.set_cons_zero, List.set_cons_succ, Nat.reduceAdd]
            iterate 3 (apply Rg.RK.ok; (· intro vs w1 hS; go_simp; with_reducible rfl); (· rfl); simp only [Act.put, List.setIfInBounds_toArray, List.set_cons_zero, List.set_cons_succ, Nat.reduceAdd])
            apply Rg.RK.fin []
            intro vs w8 hK hU8 _
            refine hQN.out _ _ ?_
            clear hQN hS2 hK HX
            have H3 := H2.up hU8
            have D3 := D2.trans (RkTo.up hU8)
            have k1 := fun W (hU : Up w8 W) => K1 W (hU8.trans hU)
            have k2 := fun W (hU : Up w8 W) => K2 W (hU8.trans hU)
            have k3 := fun W (hU : Up w8 W) => K3 W (hU8.trans hU)
            have k4 := fun W (hU : Up w8 W) => K4 W (hU8.trans hU)
            have hS3 : ∀ W, Up w8 W → Up w8 W := fun _ h => h
            have hcat : ∀ W, (Op.stringOp .add (tx fb) (tx b0)).run Try.prog W = .ok (.string (tx (cc fb b0))) W := fun W => by
              exact (run_string_add_sum W (tx fb) (tx b0) (by rw [tx_size, tx_size]; have := HLO.out; omega)).trans (by rw [tx_append])
            clear K1 K2 K3 K4 K5 H2 D2 hU8 c0
            go_wp2_with fail
            apply Rg.region_up _ (by kernel_rfl) (by kernel_rfl) hS3
            · intro QN hQN
              iterate 14 (apply Rg.RK.ok; (· intro vs w1 hS; go_simp; with_reducible rfl); (· rfl); simp only [Act.put, List.setIfInBounds_toArray, List.set_cons_zero, List.set_cons_succ, Nat.reduceAdd])
              apply Rg.RK.fin []
              intro vs w7 hK hU7 _
              refine hQN.out _ _ ?_
              clear hQN
              have k4' := k4 w7 hU7
              have H4 := H3.up hU7
              have D4 := D3.trans (RkTo.up hU7)
              have z9 : w7.frozen? ⟨gF, pf * 2, none⟩ = false := H4.fz (j := pf * 2) hfa
              obtain ⟨H5, D5⟩ := H4.setFi (u := .string (tx (cc fb b0))) (j := 0) hfa HF.out (by omega) ⟨cc fb b0, fl⟩ rfl
              have D6 := D4.trans D5
              have HH5 : Hid (RkAt B h { r1 with files := r1.files.set pf ⟨cc fb b0, fl⟩ } (w7.setCell ⟨gF, pf * 2, none⟩ (.string (tx (cc fb b0))))) := Lib.hid H5
              have HD6 : Hid (RkTo h w h (w7.setCell ⟨gF, pf * 2, none⟩ (.string (tx (cc fb b0))))) := Lib.hid D6
              clear H3 H4 H5 D3 D4 D5 D6 k1 k2 k3 k4 hS3 hU7 hK
              go_wp2_with fail
              go_ret
              rw [HC5.out]
              exact ⟨h, rfl, HH5.out, HD6.out⟩
            · kernel_rfl
          · kernel_rfl
      · kernel_rfl
  · have hat : atR r1.now s = -1 := by unfold atR; rw [if_neg hx]
    have hc3 : appendR r s b0 = (r1, 11) := by
      rw [HC2.out]
      unfold appendR1
      rw [if_neg hx]
    have HC3 := Lib.hid hc3
    rw [hat]
    clear hc3 hat hx
    go_wp2_with fail
    go_ret
    rw [HC3.out]
    exact ⟨h, rfl, H1, D1⟩
end Go.Proofs.Ytebhhfmekmpnkaa

/-
  The walks of the document's disk: Rename.
-/
namespace Go.Proofs.Ytebhhfmekmpnkaa
open Go.RowKit Go.Maps
set_option linter.unusedVariables false
set_option linter.unusedSimpArgs false

theorem withR_len (l : List Nm) (s : List UInt8) (f : Nat) : (withR l s f).length ≤ l.length + 1 := by
  have h : kN l s ≤ kN1 l s := by unfold kN1; split <;> omega
  unfold withR
  rw [List.length_append, List.length_append, List.length_take, List.length_drop, List.length_singleton]
  omega
def renameR1 (a b : List UInt8) (r : Rk) : Rk × Nat :=
  if ixN r.now a < r.now.length then
    (if a = b then (r, 0) else ({ r with now := withoutR (withR r.now b (fidR r a)) a, ops := r.ops ++ [⟨1, 0, a, b⟩] }, 0))
  else (r, 11)
def renameR (r : Rk) (a b : List UInt8) : Rk × Nat := afterR [a, b] r (renameR1 a b)
set_option maxRecDepth 100000 in
set_option maxHeartbeats 1600000 in
theorem rrename_any {B : Nat} {h : Rh} {r : Rk} {w : World} (H : RkAt B h r w) (hok : RkOk r) (a b : List UInt8) (ha : a.length ≤ 9223372036854775807) (hb : b.length ≤ 9223372036854775807) :
    Calls Try.prog 50 #[.pointer (some ⟨h.g, 0, none⟩), .string (tx a), .string (tx b)] w fun e w' => ∃ h', e = .returned (.int .i64 ((renameR r a b).2 : Int)) ∧ RkAt B h' (renameR r a b).1 w' ∧ RkTo h w h' w' := by
  have HCR : Hid (renameR r a b = afterR [a, b] r (renameR1 a b)) := Lib.hid rfl
  go_enter Try.func50, Try.ntmps50
  go_wp2_with fail
  refine (rok4_any a _ ha).mono ?_
  rintro e wz ⟨rfl, rfl⟩
  rcases hna : nameB a with _ | _
  · have hc2 := HCR.out
    rw [afterR_bad (by simp [hna])] at hc2
    have HC2 := Lib.hid hc2
    clear hc2 HCR
    go_wp2_with fail
    go_ret
    rw [HC2.out]
    exact ⟨h, rfl, H, RkTo.refl _ _⟩
  go_wp2_with fail
  refine (rok4_any b _ hb).mono ?_
  rintro e wz ⟨rfl, rfl⟩
  rcases hnb : nameB b with _ | _
  · have hc2 := HCR.out
    rw [afterR_bad (by simp [hnb])] at hc2
    have HC2 := Lib.hid hc2
    clear hc2 HCR
    go_wp2_with fail
    go_ret
    rw [HC2.out]
    exact ⟨h, rfl, H, RkTo.refl _ _⟩
  have hnall : [a, b].all nameB = true := by simp [hna, hnb]
  have HNA := Lib.hid hnall
  clear hnb hna hnall
  go_wp2_with fail
  refine (rcall_any H hok).mono ?_
  rintro e w1 ⟨rfl, H1, D1⟩
  have hb1 := hok.toRkB.same (callR_same r)
  have HSM := Lib.hid (callR_same r)
  obtain ⟨rr, hrr⟩ : ∃ rr, callR r = rr := ⟨_, rfl⟩
  rw [hrr] at H1 hb1 HSM ⊢
  obtain ⟨r1, ec⟩ := rr
  (try dsimp only at H1 hb1 HSM ⊢)
  by_cases he : ec ≠ 0
  · have heb : ((ec : Int) != 0) = true := by rw [bne_iff_ne]; omega
    have hc2 := HCR.out
    rw [afterR_err HNA.out hrr he] at hc2
    have HC2 := Lib.hid hc2
    clear hc2 HCR hrr he
    go_wp2_with fail
    go_ret
    rw [HC2.out]
    exact ⟨h, rfl, H1, D1⟩
  have heb : ((ec : Int) != 0) = false := by rw [bne_eq_false_iff_eq]; omega
  have hc2 := HCR.out
  rw [afterR_ok HNA.out hrr he] at hc2
  have HC2 := Lib.hid hc2
  clear hc2 HCR hrr he HNA
  have c2 : w1.cell? ⟨h.g, 2, none⟩ = some (.slice h.na r1.now.length h.nc) := blk_cell H1.hd 2
  have hxb : ∀ A n c, Value.slice A n c = Value.slice A n c := fun _ _ _ => rfl
  go_wp2_with fail
  refine (rat_any h.na r1.now.length h.nc r1.now a w1 (Rd.own H1.now) (Nat.le_trans hb1.nn (by decide))).mono ?_
  rintro e w2 ⟨rfl, rfl⟩
  clear c2 hxb
  by_cases hx : ixN r1.now a < r1.now.length
  · have hat : atR r1.now a = (ixN r1.now a : Int) := by unfold atR; rw [if_pos hx]
    have hk0 : ¬ (ixN r1.now a : Int) < 0 := by omega
    by_cases hab : a = b
    · have hc3 : renameR r a b = (r1, 0) := by
        rw [HC2.out]
        unfold renameR1
        rw [if_pos hx, if_pos hab]
      have HC3 := Lib.hid hc3
      have hsame : ((tx a).toList == (tx b).toList) = true := tx_beq hab
      rw [hat]
      clear hc3 hat HC2 HSM hab hx
      go_wp2_with fail
      go_ret
      rw [HC3.out]
      exact ⟨h, rfl, H1, D1⟩
    · have hsame : ((tx a).toList == (tx b).toList) = false := tx_bne hab
      obtain ⟨ob, oo, gF, p, f, hna, hfa, hp, hf, hpl, k1, k2, k3, k4, k5⟩ := H1.file_ptr hb1 hx
      obtain ⟨pn, pf⟩ := p
      (try dsimp only at hp hf hpl k3 k4 k5)
      have hc3 : renameR r a b = ({ r1 with now := withoutR (withR r1.now b pf) a, ops := r1.ops ++ [⟨1, 0, a, b⟩] }, 0) := by
        rw [HC2.out]
        unfold renameR1
        rw [if_pos hx, if_neg hab, fidR_eq hp]
      have HC3 := Lib.hid hc3
      rw [hat]
      have hd1 := decide_eq_true hx
      generalize ixN r1.now a = k at *
      obtain ⟨nl, hnl⟩ : ∃ nl, nl = withoutR (withR r1.now b pf) a := ⟨_, rfl⟩
      obtain ⟨L, hL⟩ : ∃ L, L = nl.length := ⟨_, rfl⟩
      rw [← hnl] at hc3
      have HC3 := Lib.hid hc3
      have HNL := Lib.hid hnl
      have HL := Lib.hid hL
      have hnn := hb1.nn
      have hwl : (withR r1.now b pf).length ≤ 1000001 := by have := withR_len r1.now b pf; omega
      have hh1 := H1.hd
      have hglt := (Array.getElem?_eq_some_iff.1 hh1).1
      have hnc := own_cap H1.now
      have hj2 : (rcs r1 h)[2]? = some (.slice (some ⟨ob, oo, none⟩) r1.now.length h.nc) := by rw [← hna]; rfl
      have hKS : ∀ W, Rg.Keeps (fun g => g = h.g) w1.drew W → Rg.Keeps (fun g => g = h.g) w1.drew W := fun W hK => hK
      have hKW : ∀ W, Rg.Keeps (fun g => g = h.g) w1.drew W → Rg.Keeps (fun g => g = h.g) w1 W := fun W hK => ⟨hK.os, hK.tape, hK.output, hK.size, hK.block⟩
      have HRD : Hid (∀ W, Rg.Keeps (fun g => g = h.g) w1.drew W → Rd W W.heap.size 2 (some ⟨ob, oo, none⟩) r1.now.length (ncs r1.now)) := fun W hK => by
        have h9 := (Rd.own H1.now).keepsX (Nat.le_refl _) (fun x hx => H1.gne.2.1 x.block ⟨x, hx, rfl⟩) (hKW W hK)
        rwa [hna] at h9
      have k3' : ∀ W, Rg.Keeps (fun g => g = h.g) w1.drew W → W.cell? ⟨ob, oo + k * 2 + 1, none⟩ = some (.int .i64 (pf : Int)) := fun W hK => by
        have hlt : ob < w1.heap.size := (inA_own H1.now ⟨_, hna, rfl⟩).2
        exact (World.cell?_of_block (a := ⟨ob, oo + k * 2 + 1, none⟩) ((hKW W hK).block ob hlt (H1.gne.2.1 ob ⟨_, hna, rfl⟩))).trans (k3 w1 (Up.refl _))
      have c2 : w1.cell? ⟨h.g, 2, none⟩ = some (.slice (some ⟨ob, oo, none⟩) r1.now.length h.nc) := k2 w1 (Up.refl _)
      have HX := Lib.hid H1
      have HDX := Lib.hid D1
      clear hc3 hnl hL hf hp hat HC2 HSM hab hna hfa k1 k2 k3 k4 k5 H1 D1
      go_wp2_with fail
      apply Rg.region_own 20 _ (fun g => g = h.g) (fun W => W.heap[h.g]? = some (.cells (rcs r1 h) 92 (0, 0))) rfl (by kernel_rfl) (by kernel_rfl) (by rintro g rfl; exact hglt) hh1 (fun w1 w2 h hs => (hs.block _ (Array.getElem?_eq_some_iff.1 h).1 (.inr rfl)).trans h) hKS
      · intro QN hQN
        iterate 4 (apply Rg.RK.ok; (· intro vs w1 hS; go_simp; with_reducible rfl); (· rfl); simp only [Act.put, List.setIfInBounds_toArray, List.set_cons_zero, List.set_cons_succ, Nat.reduceAdd])
        apply Rg.RK.okU [20] (v := .slice (some ⟨ob, oo, none⟩) r1.now.length h.nc)
        · intro vs w9 hS9 hf
          have hb := hf.1
          have hbl : w9.heap[h.g]? = some (.cells (rcs (r1) (h)) 92 (0, 0)) := hb
          have hc9 : w9.cell? ⟨h.g, 2, none⟩ = some (.slice (some ⟨ob, oo, none⟩) r1.now.length h.nc) := (blk_cell hbl 2).trans hj2
          clear hb hbl hf hS9
          go_simp
          (try with_reducible rfl)
        · rfl
        simp only [Act.put, List.setIfInBounds_toArray, List.set_cons_zero, List.set_cons_succ, Nat.reduceAdd]
        iterate 4 (apply Rg.RK.ok; (· intro vs w1 hS; go_simp; with_reducible rfl); (· rfl); simp only [Act.put, List.setIfInBounds_toArray, List.set_cons_zero, List.set_cons_succ, Nat.reduceAdd])
        apply Rg.RK.okU [20] (v := .slice (some ⟨ob, oo, none⟩) r1.now.length h.nc)
        · intro vs w9 hS9 hf
          have hb := hf.1
          have hbl : w9.heap[h.g]? = some (.cells (rcs (r1) (h)) 92 (0, 0)) := hb
          have hc9 : w9.cell? ⟨h.g, 2, none⟩ = some (.slice (some ⟨ob, oo, none⟩) r1.now.length h.nc) := (blk_cell hbl 2).trans hj2
          clear hb hbl hf hS9
          go_simp
          (try with_reducible rfl)
        · rfl
        simp only [Act.put, List.setIfInBounds_toArray, List.set_cons_zero, List.set_cons_succ, Nat.reduceAdd]
        iterate 4 (apply Rg.RK.ok; (· intro vs w1 hS; go_simp; with_reducible rfl); (· rfl); simp only [Act.put, List.setIfInBounds_toArray, List.set_cons_zero, List.set_cons_succ, Nat.reduceAdd])
        apply Rg.RK.opn (fun v W => W.ownsRow w1.heap.size 110 2 v (withR r1.now b pf).length (ncs (withR r1.now b pf))) Rg.ob [] []
        · exact fun v W1 W2 h hs => row_sta h hs
        · rfl
        · intro vs w9 hK hS9 hf K hKK
          go_simp
          refine (with_any (some ⟨ob, oo, none⟩) r1.now.length h.nc r1.now b pf w9 (HRD.out w9 hS9) hnc (by omega)).mono ?_
          rintro e w5 ⟨R, rc, rfl, ho, hu, -⟩
          exact hKK.out _ _ (own_base ho hK.size) (Rg.Keeps.of_up hu) (fun g hg => ⟨(inA_own ho (ob_inA hg)).2, .inl (inA_own ho (ob_inA hg)).1⟩)
        simp only [Act.put, List.setIfInBounds_toArray, List.set_cons_zero, List.set_cons_succ, Nat.reduceAdd]
        iterate 1 (apply Rg.RK.ok; (· intro vs w1 hS; go_simp; with_reducible rfl); (· rfl); simp only [Act.put, List.setIfInBounds_toArray, List.set_cons_zero, List.set_cons_succ, Nat.reduceAdd])
        apply Rg.RK.opn (fun v W => W.ownsRow w1.heap.size 110 2 v L (ncs nl)) Rg.ob [14] [14]
        · exact fun v W1 W2 h hs => row_sta h hs
        · rfl
        · intro vs w9 hK hS9 hf K hKK
          have h14 : w9.ownsRow w1.heap.size 110 2 (vs 14) (withR r1.now b pf).length (ncs (withR r1.now b pf)) := hf.1
          obtain ⟨R, rc, hv⟩ := own_form h14
          rw [hv] at h14
          (try dsimp only at hKK ⊢)
          rw [hv] at hKK ⊢
          have HV := Lib.hid hv
          clear hv
          go_simp
          refine (without_any R (withR r1.now b pf).length rc (withR r1.now b pf) a w9 h14 hK.size (by omega)).mono ?_
          rintro e w5 ⟨R5, rc5, rfl, ho, hu, hat5⟩
          rw [← HNL.out, ← HL.out] at ho ⊢
          refine hKK.out _ _ ho (Rg.Keeps.of_up hu) (fun g hg => ⟨(inA_own ho (ob_inA hg)).2, ?_⟩)
          rcases hat5 g (ob_inA hg) with h9 | h9
          · refine .inr ⟨14, List.mem_singleton.2 rfl, ?_⟩
            show Rg.ob (vs 14) g
            rw [HV.out]
            obtain ⟨x, rfl, hx⟩ := h9
            exact hx
          · exact .inl h9
        simp only [Act.put, List.setIfInBounds_toArray, List.set_cons_zero, List.set_cons_succ, Nat.reduceAdd]
        iterate 2 (apply Rg.RK.ok; (· intro vs w1 hS; go_simp; with_reducible rfl); (· rfl); simp only [Act.put, List.setIfInBounds_toArray, List.set_cons_zero, List.set_cons_succ, Nat.reduceAdd])
        apply Rg.RK.opD (fun vs W => ∃ R rc, vs 16 = .slice R L rc ∧ W.heap[h.g]? = some (.cells (rcs { r1 with now := nl } { h with na := R, nc := rc }) 92 (0, 0))) (fun _ g => g = h.g) [16, 20] [20] [16] (fun vs vs' h => by rw [h 16 (by simp)]; exact ⟨rfl, rfl⟩)
        · rintro vs W1 W2 ⟨R', rc', hv, hh⟩ hs
          exact ⟨R', rc', hv, (hs.block h.g (Array.getElem?_eq_some_iff.1 hh).1 (.inr rfl)).trans hh⟩
        · rfl
        · intro vs w9 hK hS9 hf K hKK
          obtain ⟨hk, hblk, -⟩ := hf
          have hk' : w9.ownsRow (w1).heap.size 110 2 (vs 16) L (ncs nl) := hk
          obtain ⟨R', rc', hv⟩ := own_form hk'
          have hblk2 : w9.heap[h.g]? = some (.cells (rcs (r1) (h)) 92 (0, 0)) := hblk
          have t1 : w9.cell? ⟨h.g, 2, none⟩ = some (.slice (h).na (r1).now.length (h).nc) := blk_cell hblk2 2
          have s1 := blk_free hblk2 2
          have h7 := setc_heap w9 h.g 2 (.slice R' L rc') _ _ hblk2
          have h8 := setc_keeps w9 w9 h.g 2 (.slice R' L rc') (Rg.Keeps.refl _ _)
          have hcs : (rcs (r1) (h)).setIfInBounds 2 (.slice R' L rc') = rcs { r1 with now := nl } { h with na := R', nc := rc' } := by simp [rcs, HL.out]
          rw [hcs] at h7
          (try dsimp only at hKK ⊢)
          rw [hv] at hKK ⊢
          have HV := Lib.hid hv
          clear hv hcs
          go_simp
          refine hKK.out undef _ ⟨R', rc', ?_, h7⟩ (Keeps.weak h8 fun y hy => ⟨20, List.mem_singleton.2 rfl, hy⟩) (fun y hy => ⟨?_, .inr ⟨20, List.mem_singleton.2 rfl, hy⟩⟩)
          · rw [Rg.upd_ne _ _ (by decide)]; exact HV.out
          · have hyy : y = h.g := hy
            rw [hyy]; exact (Array.getElem?_eq_some_iff.1 h7).1
        simp only [Act.put, List.setIfInBounds_toArray, List.set_cons_zero, List.set_cons_succ, Nat.reduceAdd]
        apply Rg.RK.fin [16, 19]
        intro vs w9 hK hS9 hf
        obtain ⟨h16, h19, -⟩ := hf
        have h16' : w9.ownsRow w1.heap.size 110 2 (vs 16) L (ncs nl) := h16
        obtain ⟨R, rc, hv, hh9⟩ := h19
        refine hQN.out _ _ ?_
        clear hQN
        (try dsimp only)
        rw [hv] at h16' ⊢
        have hbB : B ≤ w1.heap.size := by have := HX.out.lt (.inl rfl); omega
        rw [HL.out] at h16'
        obtain ⟨H3, D3⟩ := HX.out.setNowF nl hh9 (own_base h16' hbB) (hKW w9 hS9) (Nat.le_refl _) (fun k hk => .inr (inA_own h16' hk).1)
        have D4 := HDX.out.trans D3
        clear D3 HX HDX h16' h16 hh9 hv hK hS9 hKS hKW HRD k3' hh1
        have hno := hb1.no
        have hne : ({ r1 with now := nl }).ops.length = r1.ops.length := rfl
        have c4 : (w9).cell? ⟨h.g, 4, none⟩ = some (.slice h.oa r1.ops.length h.oc) := blk_cell (H3).hd 4
        have hbw : B ≤ (w9).heap.size := by have := (H3).lt (.inl rfl); omega
        have hop3 : (w9).ownsRow B 105 4 (.slice h.oa r1.ops.length h.oc) r1.ops.length (tcs r1.ops) := (H3).ops
        go_wp2_with (at_builtin; refine wpList_append_rd _ ropsT (own_up hop3 ((Up.refl _).alloc _)) (Rd.made (n := 1) _ _ _ rfl) (tcs_one [⟨1, 0, a, b⟩]) (by omega) (by omega) (by rw [World.size_alloc]; omega) rfl rfl rfl rfl ?_; intro v5 w5 ho5 hg5 hat5; obtain ⟨R5, rc5, rfl⟩ := own_form ho5; obtain ⟨hK5, H5, hua5, hh5⟩ := (H3).opsStep hg5; have y4 := blk_cell hh5 4; have s4 := blk_free hh5 4)
        have hlen : (r1.ops ++ [(⟨1, 0, a, b⟩ : Tn)]).length = r1.ops.length + 1 := by simp
        have hcs5 : w5.ownsRow B 105 4 (.slice R5 (r1.ops ++ [(⟨1, 0, a, b⟩ : Tn)]).length rc5) (r1.ops ++ [(⟨1, 0, a, b⟩ : Tn)]).length (tcs (r1.ops ++ [(⟨1, 0, a, b⟩ : Tn)])) := by
          rw [hlen, tcs_append]; exact ho5
        obtain ⟨H6, D6⟩ := H5.setOps (r1.ops ++ [(⟨1, 0, a, b⟩ : Tn)]) hcs5 hK5 (m := (w9).heap.size) (fun k hk => (at_inA hat5 k hk).imp (fun h9 => .inr (.inr (.inr (.inr h9)))) (fun h9 => by rw [World.size_alloc] at h9; omega)) (w9) (Nat.le_refl _) hua5
        rw [hlen] at H6 D6
        have D7 := (D4).trans D6
        have HH6 := Lib.hid H6
        have HD7 := Lib.hid D7
        clear H5 H6 D6 D7 hcs5 ho5 hg5 hat5 hK5 hh5 H3 D4 hop3
        go_ret
        rw [HC3.out]
        first | exact ⟨_, rfl, HH6.out, HD7.out⟩ | exact ⟨rfl, _, HH6.out, HD7.out⟩
      · kernel_rfl
  · have hat : atR r1.now a = -1 := by unfold atR; rw [if_neg hx]
    have hc3 : renameR r a b = (r1, 11) := by
      rw [HC2.out]
      unfold renameR1
      rw [if_neg hx]
    have HC3 := Lib.hid hc3
    rw [hat]
    clear hc3 hat hx
    go_wp2_with fail
    go_ret
    rw [HC3.out]
    exact ⟨h, rfl, H1, D1⟩
end Go.Proofs.Ytebhhfmekmpnkaa

/-
  The walks of the document's disk: Create.
-/
namespace Go.Proofs.Ytebhhfmekmpnkaa
open Go.RowKit Go.Maps
set_option linter.unusedVariables false
set_option linter.unusedSimpArgs false

def createR1 (s : List UInt8) (r : Rk) : Rk × Nat :=
  if ixN r.now s < r.now.length then (r, 12) else if 64 ≤ r.now.length then (r, 65)
  else ({ r with files := r.files ++ [⟨[], 0⟩], now := withR r.now s r.files.length, ops := r.ops ++ [⟨0, r.files.length, s, []⟩] }, 0)
def createR (r : Rk) (s : List UInt8) : Rk × Nat := afterR [s] r (createR1 s)
set_option maxRecDepth 100000 in
set_option maxHeartbeats 1600000 in
theorem rcreate_any {B : Nat} {h : Rh} {r : Rk} {w : World} (H : RkAt B h r w) (hok : RkOk r) (s : List UInt8) (hs : s.length ≤ 9223372036854775807) :
    Calls Try.prog 47 #[.pointer (some ⟨h.g, 0, none⟩), .string (tx s)] w fun e w' => ∃ h', e = .returned (.int .i64 ((createR r s).2 : Int)) ∧ RkAt B h' (createR r s).1 w' ∧ RkTo h w h' w' := by
  have HCR : Hid (createR r s = afterR [s] r (createR1 s)) := Lib.hid rfl
  go_enter Try.func47, Try.ntmps47
  go_wp2_with fail
  refine (rok4_any s _ hs).mono ?_
  rintro e wz ⟨rfl, rfl⟩
  rcases hnb : nameB s with _ | _
  · have hc2 := HCR.out
    rw [afterR_bad (by simp [hnb])] at hc2
    have HC2 := Lib.hid hc2
    clear hc2 HCR
    go_wp2_with fail
    go_ret
    rw [HC2.out]
    exact ⟨h, rfl, H, RkTo.refl _ _⟩
  have hnall : [s].all nameB = true := by simp [hnb]
  have HNA := Lib.hid hnall
  clear hnb hnall
  go_wp2_with fail
  refine (rcall_any H hok).mono ?_
  rintro e w1 ⟨rfl, H1, D1⟩
  have hb1 := hok.toRkB.same (callR_same r)
  have HSM := Lib.hid (callR_same r)
  obtain ⟨rr, hrr⟩ : ∃ rr, callR r = rr := ⟨_, rfl⟩
  rw [hrr] at H1 hb1 HSM ⊢
  obtain ⟨r1, ec⟩ := rr
  (try dsimp only at H1 hb1 HSM ⊢)
  by_cases he : ec ≠ 0
  · have heb : ((ec : Int) != 0) = true := by rw [bne_iff_ne]; omega
    have hc2 := HCR.out
    rw [afterR_err HNA.out hrr he] at hc2
    have HC2 := Lib.hid hc2
    clear hc2 HCR hrr he
    go_wp2_with fail
    go_ret
    rw [HC2.out]
    exact ⟨h, rfl, H1, D1⟩
  have heb : ((ec : Int) != 0) = false := by rw [bne_eq_false_iff_eq]; omega
  have hc2 := HCR.out
  rw [afterR_ok HNA.out hrr he] at hc2
  have HC2 := Lib.hid hc2
  clear hc2 HCR hrr he HNA
  have c2 : w1.cell? ⟨h.g, 2, none⟩ = some (.slice h.na r1.now.length h.nc) := blk_cell H1.hd 2
  have hxb : ∀ A n c, Value.slice A n c = Value.slice A n c := fun _ _ _ => rfl
  go_wp2_with fail
  refine (rat_any h.na r1.now.length h.nc r1.now s w1 (Rd.own H1.now) (Nat.le_trans hb1.nn (by decide))).mono ?_
  rintro e w2 ⟨rfl, rfl⟩
  clear c2 hxb
  by_cases hx : ixN r1.now s < r1.now.length
  · have hat : atR r1.now s = (ixN r1.now s : Int) := by unfold atR; rw [if_pos hx]
    have hc3 : createR r s = (r1, 12) := by
      rw [HC2.out]
      unfold createR1
      rw [if_pos hx]
    have HC3 := Lib.hid hc3
    have hk0 : (0 : Int) ≤ (ixN r1.now s : Int) := by omega
    rw [hat]
    clear hc3 hat hx
    go_wp2_with fail
    go_ret
    rw [HC3.out]
    exact ⟨h, rfl, H1, D1⟩
  · have hat : atR r1.now s = -1 := by unfold atR; rw [if_neg hx]
    have c2 : w1.cell? ⟨h.g, 2, none⟩ = some (.slice h.na r1.now.length h.nc) := blk_cell H1.hd 2
    rw [hat]
    by_cases h64 : 64 ≤ r1.now.length
    · have h64i : (64 : Int) ≤ (r1.now.length : Int) := by omega
      have hc3 : createR r s = (r1, 65) := by
        rw [HC2.out]
        unfold createR1
        rw [if_neg hx, if_pos h64]
      have HC3 := Lib.hid hc3
      clear hc3 hat hx h64
      go_wp2_with fail
      go_ret
      rw [HC3.out]
      exact ⟨h, rfl, H1, D1⟩
    · have h64i : ¬ (64 : Int) ≤ (r1.now.length : Int) := by omega
      obtain ⟨nl, hnl⟩ : ∃ nl, nl = withR r1.now s r1.files.length := ⟨_, rfl⟩
      obtain ⟨L, hL⟩ : ∃ L, L = nl.length := ⟨_, rfl⟩
      have hc3 : createR r s = ({ r1 with files := r1.files ++ [⟨[], 0⟩], now := nl, ops := r1.ops ++ [⟨0, r1.files.length, s, []⟩] }, 0) := by
        rw [HC2.out, hnl]
        unfold createR1
        rw [if_neg hx, if_neg h64]
      have HC3 := Lib.hid hc3
      have HNL := Lib.hid hnl
      have HL := Lib.hid hL
      have hnf := hb1.nf
      have hnn := hb1.nn
      have hno := hb1.no
      have hbB : B ≤ w1.heap.size := by have := H1.lt (.inl rfl); omega
      have c1 : w1.cell? ⟨h.g, 1, none⟩ = some (.slice h.fa r1.files.length h.fc) := blk_cell H1.hd 1
      have hfi := H1.files
      clear hc3 hat hx h64 hnl hL
      go_upto_region 11 with (at_builtin; refine wpList_append_rd _ rfilesT (own_up hfi ((Up.refl _).alloc _)) (Rd.made (n := 1) _ _ _ rfl) (fcs_one [⟨[], 0⟩]) (by omega) (by omega) (by rw [World.size_alloc]; omega) rfl rfl rfl rfl ?_; intro v5 w5 ho5 hg5 hat5; obtain ⟨R5, rc5, rfl⟩ := own_form ho5; obtain ⟨hK5, H5, hua5, hh5⟩ := H1.filesStep hg5; have y1 := blk_cell hh5 1; have s1 := blk_free hh5 1)
      have hlen : (r1.files ++ [(⟨[], 0⟩ : Fi)]).length = r1.files.length + 1 := by simp
      have hcs5 : w5.ownsRow B 102 2 (.slice R5 (r1.files ++ [(⟨[], 0⟩ : Fi)]).length rc5) (r1.files ++ [(⟨[], 0⟩ : Fi)]).length (fcs (r1.files ++ [(⟨[], 0⟩ : Fi)])) := by
        rw [hlen, fcs_append]; exact ho5
      obtain ⟨H6, D6⟩ := H5.setFiles (r1.files ++ [(⟨[], 0⟩ : Fi)]) hcs5 hK5 (m := w1.heap.size) (fun k hk => (at_inA hat5 k hk).imp (fun h9 => .inr (.inl h9)) (fun h9 => by rw [World.size_alloc] at h9; omega)) w1 (Nat.le_refl _) hua5
      rw [hlen] at H6 D6
      have D7 := D1.trans D6
      obtain ⟨r2, hr2⟩ : ∃ r2, r2 = { r1 with files := r1.files ++ [(⟨[], 0⟩ : Fi)] } := ⟨_, rfl⟩
      obtain ⟨h2, hh2⟩ : ∃ h2, h2 = { h with fa := R5, fc := rc5 } := ⟨_, rfl⟩
      have hj2 : (rcs r2 h2)[2]? = some (.slice h.na r1.now.length h.nc) := by rw [hr2, hh2]; rfl
      have hj1 : (rcs r2 h2)[1]? = some (.slice R5 (r1.files.length + 1) rc5) := by rw [hr2, hh2, ← hlen]; rfl
      have e1 : r2.now = r1.now := by rw [hr2]
      have e2 : h2.na = h.na := by rw [hh2]
      have e3 : h2.nc = h.nc := by rw [hh2]
      have e4 : h2.g = h.g := by rw [hh2]
      have e5 : r2.ops = r1.ops := by rw [hr2]
      have e6 : h2.oa = h.oa := by rw [hh2]
      have e7 : h2.oc = h.oc := by rw [hh2]
      rw [← hr2, ← hh2] at H6
      rw [← hh2] at D7
      have HE := Lib.hid (And.intro hr2 hh2)
      clear H5 D6 hcs5 ho5 hg5 hat5 hK5 hh5 H1 D1 hr2 hh2 c1 c2 hfi y1 s1 hua5
      generalize w5.setCell ⟨h.g, 1, none⟩ (.slice R5 (r1.files.length + 1) rc5) = w6 at *
      have hh6 : w6.heap[h.g]? = some (.cells (rcs r2 h2) 92 (0, 0)) := by rw [← e4]; exact H6.hd
      have hglt := (Array.getElem?_eq_some_iff.1 hh6).1
      have hnc : r1.now.length ≤ h.nc := by rw [← e1, ← e3]; exact own_cap H6.now
      have hbB6 : B ≤ w6.heap.size := by have := H6.lt (.inl rfl); omega
      have hKS : ∀ W, Rg.Keeps (fun g => g = h.g) w6.drew W → Rg.Keeps (fun g => g = h.g) w6.drew W := fun W hK => hK
      have hKW : ∀ W, Rg.Keeps (fun g => g = h.g) w6.drew W → Rg.Keeps (fun g => g = h2.g) w6 W := fun W hK => by rw [e4]; exact ⟨hK.os, hK.tape, hK.output, hK.size, hK.block⟩
      have HRD : Hid (∀ W, Rg.Keeps (fun g => g = h.g) w6.drew W → Rd W W.heap.size 2 h.na r1.now.length (ncs r1.now)) := fun W hK => by
        have h9 := (Rd.own H6.now).keepsX (Nat.le_refl _) (fun x hx => H6.gne.2.1 x.block ⟨x, hx, rfl⟩) (hKW W hK)
        rwa [e1, e2] at h9
      have hwrf : IntKind.i64.wrap (r1.files.length : Int) = (r1.files.length : Int) := IntWalk.i64_in _ (by omega)
      have hcast : ((r1.files.length + 1 : Nat) : Int) = (r1.files.length : Int) + 1 := by omega
      have HX := Lib.hid H6
      have HDX := Lib.hid D7
      have HWF := Lib.hid e5
      have HE6 := Lib.hid e6
      have HE7 := Lib.hid e7
      have HE1 := Lib.hid e1
      have HE4 := Lib.hid e4
      clear H6 D7 e1 e2 e3 e4 e5 e6 e7
      apply Rg.region_own 16 _ (fun g => g = h.g) (fun W => W.heap[h.g]? = some (.cells (rcs r2 h2) 92 (0, 0))) rfl (by kernel_rfl) (by kernel_rfl) (by rintro g rfl; exact hglt) hh6 (fun w1 w2 h hs => (hs.block _ (Array.getElem?_eq_some_iff.1 h).1 (.inr rfl)).trans h) hKS
      · intro QN hQN
        iterate 4 (apply Rg.RK.ok; (· intro vs w1 hS; go_simp; with_reducible rfl); (· rfl); simp only [Act.put, List.setIfInBounds_toArray, List.set_cons_zero, List.set_cons_succ, Nat.reduceAdd])
        apply Rg.RK.okU [16] (v := .slice h.na r1.now.length h.nc)
        · intro vs w9 hS9 hf
          have hb := hf.1
          have hbl : w9.heap[h.g]? = some (.cells (rcs (r2) (h2)) 92 (0, 0)) := hb
          have hc9 : w9.cell? ⟨h.g, 2, none⟩ = some (.slice h.na r1.now.length h.nc) := (blk_cell hbl 2).trans hj2
          clear hb hbl hf hS9
          go_simp
          (try with_reducible rfl)
        · rfl
        simp only [Act.put, List.setIfInBounds_toArray, List.set_cons_zero, List.set_cons_succ, Nat.reduceAdd]
        iterate 4 (apply Rg.RK.ok; (· intro vs w1 hS; go_simp; with_reducible rfl); (· rfl); simp only [Act.put, List.setIfInBounds_toArray, List.set_cons_zero, List.set_cons_succ, Nat.reduceAdd])
        apply Rg.RK.okU [16] (v := .slice R5 (r1.files.length + 1) rc5)
        · intro vs w9 hS9 hf
          have hb := hf.1
          have hbl : w9.heap[h.g]? = some (.cells (rcs (r2) (h2)) 92 (0, 0)) := hb
          have hc9 : w9.cell? ⟨h.g, 1, none⟩ = some (.slice R5 (r1.files.length + 1) rc5) := (blk_cell hbl 1).trans hj1
          clear hb hbl hf hS9
          go_simp
          (try with_reducible rfl)
        · rfl
        simp only [Act.put, List.setIfInBounds_toArray, List.set_cons_zero, List.set_cons_succ, Nat.reduceAdd]
        iterate 2 (apply Rg.RK.ok; (· intro vs w1 hS; go_simp; with_reducible rfl); (· rfl); simp only [Act.put, List.setIfInBounds_toArray, List.set_cons_zero, List.set_cons_succ, Nat.reduceAdd])
        apply Rg.RK.opn (fun v W => W.ownsRow w6.heap.size 110 2 v L (ncs nl)) Rg.ob [] []
        · exact fun v W1 W2 h hs => row_sta h hs
        · rfl
        · intro vs w9 hK hS9 hf K hKK
          go_simp
          refine (with_any h.na r1.now.length h.nc r1.now s r1.files.length w9 (HRD.out w9 hS9) hnc (by omega)).mono ?_
          rintro e w5 ⟨R, rc, rfl, ho, hu, -⟩
          rw [← HNL.out, ← HL.out] at ho ⊢
          exact hKK.out _ _ (own_base ho hK.size) (Rg.Keeps.of_up hu) (fun g hg => ⟨(inA_own ho (ob_inA hg)).2, .inl (inA_own ho (ob_inA hg)).1⟩)
        simp only [Act.put, List.setIfInBounds_toArray, List.set_cons_zero, List.set_cons_succ, Nat.reduceAdd]
        iterate 2 (apply Rg.RK.ok; (· intro vs w1 hS; go_simp; with_reducible rfl); (· rfl); simp only [Act.put, List.setIfInBounds_toArray, List.set_cons_zero, List.set_cons_succ, Nat.reduceAdd])
        apply Rg.RK.opD (fun vs W => ∃ R rc, vs 12 = .slice R L rc ∧ W.heap[h.g]? = some (.cells (rcs { r2 with now := nl } { h2 with na := R, nc := rc }) 92 (0, 0))) (fun _ g => g = h.g) [12, 16] [16] [12] (fun vs vs' h => by rw [h 12 (by simp)]; exact ⟨rfl, rfl⟩)
        · rintro vs W1 W2 ⟨R', rc', hv, hh⟩ hs
          exact ⟨R', rc', hv, (hs.block h.g (Array.getElem?_eq_some_iff.1 hh).1 (.inr rfl)).trans hh⟩
        · rfl
        · intro vs w9 hK hS9 hf K hKK
          obtain ⟨hk, hblk, -⟩ := hf
          have hk' : w9.ownsRow (w6).heap.size 110 2 (vs 12) L (ncs nl) := hk
          obtain ⟨R', rc', hv⟩ := own_form hk'
          have hblk2 : w9.heap[h.g]? = some (.cells (rcs (r2) (h2)) 92 (0, 0)) := hblk
          have t1 : w9.cell? ⟨h.g, 2, none⟩ = some (.slice (h2).na (r2).now.length (h2).nc) := blk_cell hblk2 2
          have s1 := blk_free hblk2 2
          have h7 := setc_heap w9 h.g 2 (.slice R' L rc') _ _ hblk2
          have h8 := setc_keeps w9 w9 h.g 2 (.slice R' L rc') (Rg.Keeps.refl _ _)
          have hcs : (rcs (r2) (h2)).setIfInBounds 2 (.slice R' L rc') = rcs { r2 with now := nl } { h2 with na := R', nc := rc' } := by simp [rcs, HL.out]
          rw [hcs] at h7
          (try dsimp only at hKK ⊢)
          rw [hv] at hKK ⊢
          have HV := Lib.hid hv
          clear hv hcs
          go_simp
          refine hKK.out undef _ ⟨R', rc', ?_, h7⟩ (Keeps.weak h8 fun y hy => ⟨16, List.mem_singleton.2 rfl, hy⟩) (fun y hy => ⟨?_, .inr ⟨16, List.mem_singleton.2 rfl, hy⟩⟩)
          · rw [Rg.upd_ne _ _ (by decide)]; exact HV.out
          · have hyy : y = h.g := hy
            rw [hyy]; exact (Array.getElem?_eq_some_iff.1 h7).1
        simp only [Act.put, List.setIfInBounds_toArray, List.set_cons_zero, List.set_cons_succ, Nat.reduceAdd]
        apply Rg.RK.fin [12, 15]
        intro vs w9 hK hS9 hf
        obtain ⟨h16, h19, -⟩ := hf
        have h16' : w9.ownsRow w6.heap.size 110 2 (vs 12) L (ncs nl) := h16
        obtain ⟨R, rc, hv, hh9⟩ := h19
        refine hQN.out _ _ ?_
        clear hQN
        (try dsimp only)
        rw [hv] at h16' ⊢
        rw [HL.out] at h16'
        obtain ⟨H3, D3⟩ := HX.out.setNowF nl (by rw [HE4.out]; exact hh9) (own_base h16' hbB6) (hKW w9 hS9) (Nat.le_refl _) (fun k hk => .inr (inA_own h16' hk).1)
        have D4 := HDX.out.trans D3
        obtain ⟨r3, hr3⟩ : ∃ r3, r3 = { r2 with now := nl } := ⟨_, rfl⟩
        obtain ⟨h3, hh3⟩ : ∃ h3, h3 = { h2 with na := R, nc := rc } := ⟨_, rfl⟩
        have hE := HE.out
        have hj4 : (rcs r3 h3)[4]? = some (.slice h.oa r1.ops.length h.oc) := by rw [hr3, hh3, hE.1, hE.2]; rfl
        have hj1' : (rcs r3 h3)[1]? = some (.slice R5 (r1.files.length + 1) rc5) := by rw [hr3, hh3, hE.1, hE.2, ← hlen]; rfl
        have e1 : h3.g = h.g := by rw [hh3]; exact HE4.out
        have e2 : r3.ops = r1.ops := by rw [hr3, hE.1]
        have e3 : h3.oa = h.oa := by rw [hh3, hE.2]
        have e4 : h3.oc = h.oc := by rw [hh3, hE.2]
        rw [← hr3, ← hh3] at H3
        rw [← hh3] at D4
        have HE3 := Lib.hid (And.intro hr3 hh3)
        have hh9' : w9.heap[h.g]? = some (.cells (rcs r3 h3) 92 (0, 0)) := by rw [← e1]; exact H3.hd
        have hop9 : w9.ownsRow B 105 4 (.slice h.oa r1.ops.length h.oc) r1.ops.length (tcs r1.ops) := by
          have h9 := H3.ops
          rwa [e2, e3, e4] at h9
        have hgl9 := (Array.getElem?_eq_some_iff.1 hh9').1
        have hbB9 : B ≤ w9.heap.size := by have := H3.lt (.inl rfl); omega
        have HX3 := Lib.hid H3
        have HD4 := Lib.hid D4
        have G1 := Lib.hid e1
        have G2 := Lib.hid e2
        have G3 := Lib.hid e3
        have G4 := Lib.hid e4
        clear hr3 hh3 e1 e2 e3 e4 H3 D3 D4 hE hv hh9 h16' h16 hK hS9 hKS hKW HRD HX HDX hh6 hj1 hj2 hglt
        have hxo : ∀ g, (g = h.g ∨ inA h.oa g) → g < w9.heap.size := by
          rintro g (rfl | hg)
          · exact hgl9
          · exact (inA_own hop9 hg).2
        have hS : ∀ W, Rg.Keeps (fun g => g = h.g ∨ inA h.oa g) w9.drew W → Rg.Keeps (fun g => g = h.g ∨ inA h.oa g) w9.drew W := fun W hK => hK
        go_wp2_with fail
        apply Rg.region_own 18 _ (fun g => g = h.g ∨ inA h.oa g) (fun W => W.heap[h.g]? = some (.cells (rcs r3 h3) 92 (0, 0)) ∧ W.ownsRow B 105 4 (.slice h.oa r1.ops.length h.oc) r1.ops.length (tcs r1.ops)) rfl (by kernel_rfl) (by kernel_rfl) hxo ⟨hh9', hop9⟩
          (fun v1 v2 hF hs => ⟨(hs.block h.g (Array.getElem?_eq_some_iff.1 hF.1).1 (.inr (.inl rfl))).trans hF.1, row_sta (Y := fun g => (g < w9.heap.size ∧ ¬ (g = h.g ∨ inA h.oa g)) ∨ (g = h.g ∨ inA h.oa g)) hF.2 ⟨hs.size, fun g hg hy => hs.block g hg (hy.elim id (fun ho => .inr (.inr (ob_inA ho))))⟩⟩) hS
        · intro QN hQN
          iterate 4 (apply Rg.RK.ok; (· intro vs w1 hS; go_simp; with_reducible rfl); (· rfl); simp only [Act.put, List.setIfInBounds_toArray, List.set_cons_zero, List.set_cons_succ, Nat.reduceAdd])
          apply Rg.RK.okU [18] (v := .slice h.oa r1.ops.length h.oc)
          · intro vs w9 hS9 hf
            have hb := hf.1
            have hbl : w9.heap[h.g]? = some (.cells (rcs (r3) (h3)) 92 (0, 0)) := hb.1
            have hc9 : w9.cell? ⟨h.g, 4, none⟩ = some (.slice h.oa r1.ops.length h.oc) := (blk_cell hbl 4).trans hj4
            clear hb hbl hf hS9
            go_simp
            (try with_reducible rfl)
          · rfl
          simp only [Act.put, List.setIfInBounds_toArray, List.set_cons_zero, List.set_cons_succ, Nat.reduceAdd]
          iterate 4 (apply Rg.RK.ok; (· intro vs w1 hS; go_simp; with_reducible rfl); (· rfl); simp only [Act.put, List.setIfInBounds_toArray, List.set_cons_zero, List.set_cons_succ, Nat.reduceAdd])
          apply Rg.RK.okU [18] (v := .slice R5 (r1.files.length + 1) rc5)
          · intro vs w9 hS9 hf
            have hb := hf.1
            have hbl : w9.heap[h.g]? = some (.cells (rcs (r3) (h3)) 92 (0, 0)) := hb.1
            have hc9 : w9.cell? ⟨h.g, 1, none⟩ = some (.slice R5 (r1.files.length + 1) rc5) := (blk_cell hbl 1).trans hj1'
            clear hb hbl hf hS9
            go_simp
            (try with_reducible rfl)
          · rfl
          simp only [Act.put, List.setIfInBounds_toArray, List.set_cons_zero, List.set_cons_succ, Nat.reduceAdd]
          iterate 3 (apply Rg.RK.ok; (· intro vs w1 hS; go_simp; with_reducible rfl); (· rfl); simp only [Act.put, List.setIfInBounds_toArray, List.set_cons_zero, List.set_cons_succ, Nat.reduceAdd])
          have hpc : ∀ y ∈ Tn.cs ⟨0, r1.files.length, s, []⟩, y.oneCell' = true := fun y hy => by
            simp only [Tn.cs, List.mem_cons, List.not_mem_nil, or_false] at hy
            rcases hy with rfl | rfl | rfl | rfl <;> rfl
          apply Rg.RK.opn (fun v W1 => W1.ownsRow w9.heap.size 105 4 v 1 (Tn.cs ⟨0, r1.files.length, s, []⟩)) Rg.ob [] []
          · exact fun v W1 W2 h hs => row_sta h hs
          · rfl
          · intro vs w8 hK hS9 _ K hKK
            go_simp
            exact hKK.out _ _ (row_new w8 _ _ hK.size rfl (by omega)) (Rg.Keeps.of_up ((Up.refl _).alloc _)) (by rintro g rfl; exact ⟨by simp, .inl (Nat.le_refl _)⟩)
          simp only [Act.put, List.setIfInBounds_toArray, List.set_cons_zero, List.set_cons_succ, Nat.reduceAdd]
          apply Rg.RK.opn (fun v W => W.heap[h.g]? = some (.cells (rcs r3 h3) 92 (0, 0)) ∧ W.ownsRow B 105 4 v (r1.ops.length + 1) (tcs r1.ops ++ Tn.cs ⟨0, r1.files.length, s, []⟩) ∧ ∀ k, Rg.ob v k → inA h.oa k ∨ w9.heap.size ≤ k) (fun v g => g = h.g ∨ Rg.ob v g) [18, 13] [18]
          · rintro v v1 v2 ⟨f1, f2, f3⟩ hs
            exact ⟨(hs.block h.g (Array.getElem?_eq_some_iff.1 f1).1 (.inr (.inl rfl))).trans f1, row_sta (Y := fun g => (g < w9.drew.heap.size ∧ ¬ (g = h.g ∨ inA h.oa g)) ∨ (g = h.g ∨ Rg.ob v g)) f2 ⟨hs.size, fun g hg hy => hs.block g hg (hy.elim id (fun ho => .inr (.inr ho)))⟩, f3⟩
          · rfl
          · intro vs w8 hK hS9 hf K hKK
            obtain ⟨⟨hh, hrow⟩, h12, -⟩ := hf
            have h12' : w8.ownsRow w9.heap.size 105 4 (vs 13) 1 (Tn.cs ⟨0, r1.files.length, s, []⟩) := h12
            obtain ⟨A12, c12, hv12⟩ := own_form h12'
            rw [hv12] at h12'
            (try dsimp only at hKK ⊢)
            rw [hv12] at hKK ⊢
            refine wp_append_rd _ _ _ ropsT rfl rfl rfl hrow (Rd.own h12') hpc (by omega) (by omega) (Nat.le_trans hbB9 hK.size) fun v' w5 ho' hg' hat' => ?_
            have hKr := keepsRow hrow hg'
            refine hKK.out _ _ ⟨?_, ho', fun k hk => ?_⟩ (Keeps.weak hKr fun y hy => ⟨18, List.mem_singleton.2 rfl, .inr hy⟩) (fun y hy => ?_)
            · refine (hKr.block h.g (Array.getElem?_eq_some_iff.1 hh).1 (fun hx => ?_)).trans hh
              have h1 := kd_row hrow hx
              rw [kd_cells hh] at h1
              exact absurd h1 (by decide)
            · obtain ⟨A', c', rfl⟩ := own_form ho'
              rcases at_inA hat' k (ob_inA hk) with h9 | h9
              · exact .inl h9
              · exact .inr (Nat.le_trans hK.size h9)
            · rcases hy with rfl | hy
              · exact ⟨Nat.lt_of_lt_of_le (Array.getElem?_eq_some_iff.1 hh).1 hKr.size, .inr ⟨18, List.mem_singleton.2 rfl, .inl rfl⟩⟩
              · obtain ⟨A', c', rfl⟩ := own_form ho'
                refine ⟨(inA_own ho' (ob_inA hy)).2, ?_⟩
                rcases at_inA hat' y (ob_inA hy) with h9 | h9
                · exact .inr ⟨18, List.mem_singleton.2 rfl, .inr h9⟩
                · exact .inl h9
          simp only [Act.put, List.setIfInBounds_toArray, List.set_cons_zero, List.set_cons_succ, Nat.reduceAdd]
          iterate 2 (apply Rg.RK.ok; (· intro vs w1 hS; go_simp; with_reducible rfl); (· rfl); simp only [Act.put, List.setIfInBounds_toArray, List.set_cons_zero, List.set_cons_succ, Nat.reduceAdd])
          apply Rg.RK.opD (fun vs W => ∃ T2 tc2, vs 14 = .slice T2 (r1.ops.length + 1) tc2 ∧ W.heap[h.g]? = some (.cells (rcs { r3 with ops := r1.ops ++ [⟨0, r1.files.length, s, []⟩] } { h3 with oa := T2, oc := tc2 }) 92 (0, 0)) ∧ W.ownsRow B 105 4 (.slice T2 (r1.ops.length + 1) tc2) (r1.ops.length + 1) (tcs r1.ops ++ Tn.cs ⟨0, r1.files.length, s, []⟩) ∧ ∀ k, inA T2 k → inA h.oa k ∨ w9.heap.size ≤ k) (fun vs g => g = h.g ∨ Rg.ob (vs 14) g) [14] [14] [14] (fun vs vs' h => by rw [h 14 (by simp)]; exact ⟨rfl, rfl⟩)
          · rintro vs v1 v2 ⟨T2, tc2, f0, f1, f2, f3⟩ hs
            exact ⟨T2, tc2, f0, (hs.block h.g (Array.getElem?_eq_some_iff.1 f1).1 (.inr (.inl rfl))).trans f1, row_sta (Y := fun g => (g < w9.drew.heap.size ∧ ¬ (g = h.g ∨ inA h.oa g)) ∨ (g = h.g ∨ Rg.ob (vs 14) g)) f2 ⟨hs.size, fun g hg hy => hs.block g hg (hy.elim id (fun ho => .inr (.inr (by rw [f0]; exact ho))))⟩, f3⟩
          · rfl
          · intro vs w8 hK hS9 hf K hKK
            obtain ⟨h13, -⟩ := hf
            obtain ⟨hh, hrow, hat⟩ := h13
            have hrow' : w8.ownsRow B 105 4 (vs 14) (r1.ops.length + 1) (tcs r1.ops ++ Tn.cs ⟨0, r1.files.length, s, []⟩) := hrow
            obtain ⟨T2, tc2, hv13⟩ := own_form hrow'
            have t4 : w8.cell? ⟨h.g, 4, none⟩ = some (.slice h.oa r1.ops.length h.oc) := (blk_cell hh 4).trans hj4
            have s4 := blk_free hh 4
            have hset := setc_heap w8 h.g 4 (.slice T2 (r1.ops.length + 1) tc2) _ _ hh
            have hK9 : Rg.Keeps (fun k => k = h.g) w8 (w8.setCell ⟨h.g, 4, none⟩ (.slice T2 (r1.ops.length + 1) tc2)) := setc_keeps _ _ _ _ _ (Rg.Keeps.refl _ _)
            rw [hv13] at hrow'
            have hat2 : ∀ k, inA T2 k → inA h.oa k ∨ w9.heap.size ≤ k := fun k hk => hat k (by
              show Rg.ob (vs 14) k
              rw [hv13]
              obtain ⟨a, rfl, e⟩ := hk
              exact e)
            have hrow2 := own_keepsX hrow' hK9 (fun k hk e => by
              have h1 := kd_row hrow' hk
              rw [e, kd_cells hh] at h1
              exact absurd h1 (by decide))
            (try dsimp only at hKK ⊢)
            rw [hv13] at hKK ⊢
            have HV := Lib.hid hv13
            have HH := Lib.hid hh
            clear hv13 hat hrow hh
            go_simp
            refine hKK.out undef _ ⟨T2, tc2, ?_, ?_, hrow2, hat2⟩ (Keeps.weak hK9 fun y hy => ⟨14, List.mem_singleton.2 rfl, .inl hy⟩) (fun y hy => ?_)
            · rw [Rg.upd_ne _ _ (by decide)]; exact HV.out
            · rw [hset]
              simp [rcs]
            · have hy' : y = h.g ∨ Rg.ob (vs 14) y := by simpa only [Rg.upd_ne _ _ (show 14 ≠ 17 by decide)] using hy
              rcases hy' with rfl | hy'
              · exact ⟨Nat.lt_of_lt_of_le (Array.getElem?_eq_some_iff.1 HH.out).1 hK9.size, .inr ⟨14, List.mem_singleton.2 rfl, .inl rfl⟩⟩
              · rw [HV.out] at hy'
                refine ⟨(inA_own hrow2 (ob_inA hy')).2, .inr ⟨14, List.mem_singleton.2 rfl, .inr ?_⟩⟩
                show Rg.ob (vs 14) y
                rw [HV.out]; exact hy'
          simp only [Act.put, List.setIfInBounds_toArray, List.set_cons_zero, List.set_cons_succ, Nat.reduceAdd]
          apply Rg.RK.fin [17]
          intro vs w8 hK hS9 hf
          obtain ⟨h16, -⟩ := hf
          obtain ⟨T2, tc2, hv13, hh, hrow, hat⟩ := h16
          refine hQN.out _ _ ?_
          clear hQN hS9
          (try dsimp only)
          rw [hv13]
          have hlo : (r1.ops ++ [(⟨0, r1.files.length, s, []⟩ : Tn)]).length = r1.ops.length + 1 := by simp
          have hrow9 : w8.ownsRow B 105 4 (.slice T2 (r1.ops ++ [(⟨0, r1.files.length, s, []⟩ : Tn)]).length tc2) (r1.ops ++ [(⟨0, r1.files.length, s, []⟩ : Tn)]).length (tcs (r1.ops ++ [(⟨0, r1.files.length, s, []⟩ : Tn)])) := by
            rw [hlo, tcs_append]; simpa [tcs] using hrow
          obtain ⟨H8, D8⟩ := HX3.out.setOpsF (r1.ops ++ [(⟨0, r1.files.length, s, []⟩ : Tn)]) (by rw [G1.out]; exact hh) hrow9 (by rw [G1.out, G3.out]; exact ⟨hK.os, hK.tape, hK.output, hK.size, hK.block⟩) (fun k hk => (hat k hk).imp (fun h9 => .inr (.inr (.inr (.inr (by rw [G3.out]; exact h9))))) id)
          have D9 := HD4.out.trans D8
          clear hv13 hh hrow hat hK hrow9 HX3 HD4 D8 hxo hS
          go_wp2_with fail
          go_ret
          rw [HC3.out]
          have hfin : { r3 with ops := r1.ops ++ [(⟨0, r1.files.length, s, []⟩ : Tn)] } = { r1 with files := r1.files ++ [(⟨[], 0⟩ : Fi)], now := nl, ops := r1.ops ++ [(⟨0, r1.files.length, s, []⟩ : Tn)] } := by
            rw [HE3.out.1, HE.out.1]
          rw [hfin] at H8
          first | exact ⟨_, rfl, H8, D9⟩ | exact ⟨rfl, _, H8, D9⟩
        · kernel_rfl
      · kernel_rfl
end Go.Proofs.Ytebhhfmekmpnkaa
