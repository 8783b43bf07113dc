/-
  Texts of this claim, joined: Region, Tx, BlkW1, BlkW2, ItemW8, RefW1, RefW2, ItemW5, ItemW9, ItemW10, FrameW1, FrameW2, FrameW3, FrameW4, FrameW5.
-/
import Derived.CheckFast
import Derived.Orders
import Derived.RegionTactic
import Derived.Below
import Derived.Deep.Draws
import Derived.Deep.RegionHeld
import Derived.WalkKit
import Derived.Laws.MakeOwn
import Derived.IntWalk
import Derived.Lib.AppendZeros
import Derived.Test.YtfmjgkfblejknaaGreatZ1
/-
  A law for regions that draw their order of evaluation: each operation is looked at once, whatever the order. No program is named here.
-/
namespace Go.Proofs.YtfmjgkfblejknaaGreat.Rg
open Go Go.CheckFast Go.RowKit
set_option linter.unusedVariables false

/-! ### Which operation comes before which in every order -/
inductive Pre (ops : Array Oper) : Nat → Nat → Prop
  | edge {i : Nat} {o : Oper} {e : Edge} : ops[i]? = some o → e ∈ o.after → Region.binds .any e = true → Pre ops e.on i
  | more {i p : Nat} {o : Oper} {e : Edge} : ops[i]? = some o → e ∈ o.after → Region.binds .any e = true → Pre ops p e.on → Pre ops p i

def masks : List Oper → List Nat → List Nat
  | [], acc => acc
  | o :: rest, acc => force (one (fun i => acc.getD i 0) o) fun v => masks rest (acc ++ [v])
def maskOf (ops : Array Oper) (i p : Nat) : Bool := ((masks ops.toList []).getD i 0).testBit p

theorem one_bit (look : Nat → Nat) (p : Nat) : ∀ (l : List Edge) (s : Nat), (l.foldl (fun s e => if Region.binds .any e then s ||| 2 ^ e.on ||| look e.on else s) s).testBit p = true →
    s.testBit p = true ∨ ∃ e ∈ l, Region.binds .any e = true ∧ (e.on = p ∨ (look e.on).testBit p = true)
  | [], s, h => .inl h
  | e :: l, s, h => by
    rw [List.foldl_cons] at h
    rcases one_bit look p l _ h with h | ⟨e', he', h'⟩
    · split at h
      · rename_i hb
        rw [Nat.testBit_or, Nat.testBit_or, Bool.or_eq_true, Bool.or_eq_true] at h
        rcases h with (h | h) | h
        · exact .inl h
        · rw [Nat.testBit_two_pow] at h
          exact .inr ⟨e, List.mem_cons_self, hb, .inl (by simpa using h)⟩
        · exact .inr ⟨e, List.mem_cons_self, hb, .inr h⟩
      · exact .inl h
    · exact .inr ⟨e', List.mem_cons_of_mem _ he', h'⟩

theorem masks_pre {ops : Array Oper} : ∀ (rest : List Oper) (acc : List Nat), ops.toList.drop acc.length = rest → (∀ i p, (acc.getD i 0).testBit p = true → Pre ops p i) →
    ∀ i p, ((masks rest acc).getD i 0).testBit p = true → Pre ops p i
  | [], acc, _, h => h
  | o :: rest, acc, hr, h => by
    rw [masks, force_eq]
    have hlt : acc.length < ops.toList.length := by
      rcases Nat.lt_or_ge acc.length ops.toList.length with h' | h'
      · exact h'
      · rw [List.drop_eq_nil_of_le h'] at hr; cases hr
    have ho : ops.toList[acc.length]? = some o := by
      have := congrArg List.head? hr
      rwa [List.head?_drop, List.head?_cons] at this
    refine masks_pre rest _ ?_ ?_
    · rw [List.length_append, List.length_singleton, ← List.drop_drop, hr]; rfl
    · intro i p hb
      rw [List.getD_eq_getElem?_getD, List.getElem?_append] at hb
      split at hb
      · exact h i p (by rw [List.getD_eq_getElem?_getD]; exact hb)
      · rename_i hge
        by_cases he : i = acc.length
        · subst he
          rw [Nat.sub_self] at hb
          have hb' : (one (fun i => acc.getD i 0) o).testBit p = true := hb
          unfold one at hb'
          rw [← Array.foldl_toList] at hb'
          rcases one_bit (fun i => acc.getD i 0) p o.after.toList 0 hb' with h0 | ⟨e, hm, hbd, hp⟩
          · simp at h0
          · have hm' : e ∈ o.after := by simpa using hm
            have ho' : ops[acc.length]? = some o := by simpa using ho
            rcases hp with rfl | hp
            · exact .edge ho' hm' hbd
            · exact .more ho' hm' hbd (h _ _ hp)
        · have : ([one (fun i => acc.getD i 0) o] : List Nat)[i - acc.length]? = none := by
            apply List.getElem?_eq_none; simp; omega
          rw [this] at hb; simp at hb

theorem pre_of {ops : Array Oper} {i p : Nat} (h : maskOf ops i p = true) : Pre ops p i :=
  masks_pre ops.toList [] rfl (fun i p h => by simp at h) i p h

/-! ### What is known of the operations that have come up -/
abbrev Vs := Nat → Value
def upd (vs : Vs) (k : Nat) (v : Value) : Vs := fun i => bif Nat.beq i k then v else vs i
theorem upd_same (vs : Vs) (k : Nat) (v : Value) : upd vs k v k = v := by simp [upd]
theorem upd_ne (vs : Vs) {k i : Nat} (v : Value) (h : i ≠ k) : upd vs k v i = vs i := by
  unfold upd
  cases h' : Nat.beq i k
  · rfl
  · exact absurd (Nat.eq_of_beq_eq_true h') h

/-- w' is w with new blocks, and blocks of X written. -/
structure Keeps (X : Nat → Prop) (w w' : World) : Prop where
  os : w'.os = w.os
  tape : w'.tape = w.tape
  output : w'.output = w.output
  size : w.heap.size ≤ w'.heap.size
  block : ∀ k, k < w.heap.size → ¬ X k → w'.heap[k]? = w.heap[k]?
theorem Keeps.refl (X : Nat → Prop) (w : World) : Keeps X w w := ⟨rfl, rfl, rfl, Nat.le_refl _, fun _ _ _ => rfl⟩
theorem Keeps.up {w w' : World} (h : Keeps (fun _ => False) w w') : Below w.heap.size w w' := ⟨h.os, h.tape, h.output, h.size, fun k hk => h.block k hk id⟩
theorem Keeps.of_up {X : Nat → Prop} {w w' : World} (h : Below w.heap.size w w') : Keeps X w w' := ⟨h.os, h.tape, h.output, h.size, fun k hk _ => h.block k hk⟩

/-- the blocks of Y are as they were -/
structure Sta (Y : Nat → Prop) (w w' : World) : Prop where
  size : w.heap.size ≤ w'.heap.size
  block : ∀ g, g < w.heap.size → Y g → w'.heap[g]? = w.heap[g]?

structure Shape where
  idx : Nat
  uses : List Nat
  eats : List Nat
structure Ent where
  idx : Nat
  F : Vs → World → Prop
  own : Vs → Nat → Prop

def Fof : List Ent → Nat → Vs → World → Prop
  | [], _, _, _ => True
  | e :: r, p, vs, w => bif Nat.beq e.idx p then e.F vs w else Fof r p vs w
def Oof : List Ent → Nat → Vs → Nat → Prop
  | [], _, _, _ => False
  | e :: r, p, vs, g => bif Nat.beq e.idx p then e.own vs g else Oof r p vs g

/-- what one operation does at this frame and world: its value and the world behind it meet R -/
def Runs (P : Program) (ops : Array Oper) (o : Oper) (a : Act) (w : World) (R : Value → World → Prop) : Prop :=
  ∀ K : Act → World → Prop, (∀ v w', R v w' → K (a.put o.dst v) w') →
    if Region.wanted o (yielded ops a.tmps) = true then o.wp P a w K (fun _ _ _ => False) else K (a.put o.dst undef) w

def chk (ops : Array Oper) (sh : List Shape) (k : Nat) (uses eats : List Nat) : Bool :=
  uses.all (fun p => (Nat.ble ops.size p || maskOf ops k p) && sh.all fun s => !s.eats.contains p) &&
  eats.all (fun p => uses.contains p && sh.all fun s => !s.uses.contains p || maskOf ops k s.idx)

section
variable (P : Program) (ops : Array Oper) (Q : Exit → Act → World → Prop) (X0 : Nat → Prop) (w0 : World) (S : World → Prop)

inductive ROK : List Oper → Nat → List Shape → List Ent → (Vs → Act) → Prop
  | done {k : Nat} {sh : List Shape} {Γ : List Ent} {b : Vs → Act}
      (h : ∀ vs w, Keeps X0 w0 w → S w → (∀ p, (sh.all fun s => !s.eats.contains p) = true → Fof Γ p vs w) → Q .normal (b vs) w) : ROK [] k sh Γ b
  | val {o : Oper} {rest : List Oper} {k : Nat} {sh : List Shape} {Γ : List Ent} {b : Vs → Act} (v : Value) (uses : List Nat) (hc : chk ops sh k uses [] = true)
      (h : ∀ vs w, Keeps X0 w0 w → S w → (∀ p ∈ uses, Fof Γ p vs w) → Runs P ops o (b vs) w fun v' w' => v' = v ∧ Keeps (fun _ => False) w w')
      (hr : ROK rest (k + 1) (sh ++ [⟨k, uses, []⟩]) Γ (fun vs => (b vs).put o.dst v)) : ROK (o :: rest) k sh Γ b
  | op {o : Oper} {rest : List Oper} {k : Nat} {sh : List Shape} {Γ : List Ent} {b : Vs → Act} (F : Vs → World → Prop) (own : Vs → Nat → Prop) (uses eats : List Nat) (hc : chk ops sh k uses eats = true)
      (hd : ∀ vs vs' : Vs, (∀ i, i = k ∨ maskOf ops k i = true → vs i = vs' i) → F vs = F vs' ∧ own vs = own vs')
      (hs : ∀ vs w w', F vs w → Sta (fun g => (g < w0.heap.size ∧ ¬ X0 g) ∨ own vs g) w w' → F vs w')
      (h : ∀ vs w, Keeps X0 w0 w → S w → (∀ p ∈ uses, Fof Γ p vs w) → Runs P ops o (b vs) w fun v w' =>
        F (upd vs k v) w' ∧ Keeps (fun g => ∃ p ∈ eats, Oof Γ p vs g) w w' ∧ ∀ g, own (upd vs k v) g → g < w'.heap.size ∧ (w.heap.size ≤ g ∨ ∃ p ∈ eats, Oof Γ p vs g))
      (hr : ROK rest (k + 1) (sh ++ [⟨k, uses, eats⟩]) (Γ ++ [⟨k, F, own⟩]) (fun vs => (b vs).put o.dst (vs k))) : ROK (o :: rest) k sh Γ b
end

/-! ### The data behind a proof of ROK -/
inductive OpD where
  | cl (v : Value) (uses : List Nat)
  | opn (F : Vs → World → Prop) (own : Vs → Nat → Prop) (uses eats : List Nat)
def OpD.val : OpD → Nat → Vs → Value
  | .cl v _, _, _ => v
  | .opn _ _ _ _, k, vs => vs k
def OpD.uses : OpD → List Nat
  | .cl _ u => u
  | .opn _ _ u _ => u
def OpD.eats : OpD → List Nat
  | .cl _ _ => []
  | .opn _ _ _ e => e
def OpD.sh (d : OpD) (k : Nat) : Shape := ⟨k, d.uses, d.eats⟩
def OpD.F : OpD → Vs → World → Prop
  | .cl _ _, _, _ => True
  | .opn F _ _ _, vs, w => F vs w
def OpD.own : OpD → Vs → Nat → Prop
  | .cl _ _, _, _ => False
  | .opn _ o _ _, vs, g => o vs g


def ents : List OpD → Nat → List Ent
  | [], _ => []
  | .cl _ _ :: r, k => ents r (k + 1)
  | .opn F own _ _ :: r, k => ⟨k, F, own⟩ :: ents r (k + 1)
def shs : List OpD → Nat → List Shape
  | [], _ => []
  | d :: r, k => d.sh k :: shs r (k + 1)
def dstOf (ops : Array Oper) (k : Nat) : Option Tmp := (ops[k]?).bind (·.dst)
def bGo (ops : Array Oper) (vs : Vs) : List OpD → Nat → Act → Act
  | [], _, a => a
  | d :: r, k, a => bGo ops vs r (k + 1) (a.put (dstOf ops k) (d.val k vs))

theorem ents_append : ∀ (D : List OpD) (E : List OpD) (k : Nat), ents (D ++ E) k = ents D k ++ ents E (k + D.length)
  | [], _, _ => rfl
  | .cl _ _ :: r, E, k => by simp only [List.cons_append, ents, ents_append r E (k + 1), List.length_cons]; rw [Nat.add_right_comm k 1, Nat.add_assoc k]
  | .opn _ _ _ _ :: r, E, k => by simp only [List.cons_append, ents, ents_append r E (k + 1), List.length_cons]; rw [Nat.add_right_comm k 1, Nat.add_assoc k]
theorem shs_append : ∀ (D : List OpD) (E : List OpD) (k : Nat), shs (D ++ E) k = shs D k ++ shs E (k + D.length)
  | [], _, _ => rfl
  | d :: r, E, k => by simp only [List.cons_append, shs, shs_append r E (k + 1), List.length_cons]; rw [Nat.add_right_comm k 1, Nat.add_assoc k]
theorem bGo_append (ops : Array Oper) (vs : Vs) : ∀ (D : List OpD) (E : List OpD) (k : Nat) (a : Act), bGo ops vs (D ++ E) k a = bGo ops vs E (k + D.length) (bGo ops vs D k a)
  | [], _, _, _ => rfl
  | d :: r, E, k, a => by simp only [List.cons_append, bGo, bGo_append ops vs r E (k + 1), List.length_cons]; rw [Nat.add_right_comm k 1, Nat.add_assoc k]

theorem put_size (a : Act) (d : Option Tmp) (v : Value) : (a.put d v).tmps.size = a.tmps.size := by cases d <;> simp [Act.put]
theorem put_defers (a : Act) (d : Option Tmp) (v : Value) : (a.put d v).defers = a.defers := by cases d <;> rfl
theorem put_at (a : Act) (t : Tmp) (v : Value) (h : t < a.tmps.size) : (a.put (some t) v).tmps[t]? = some v := by simp [Act.put, h]
theorem put_other (a : Act) (d : Option Tmp) (t : Tmp) (v : Value) (h : d ≠ some t) : (a.put d v).tmps[t]? = a.tmps[t]? := by
  cases d with
  | none => rfl
  | some e => exact Array.getElem?_setIfInBounds_ne (fun he => h (by rw [he]))
theorem bGo_size (ops : Array Oper) (vs : Vs) : ∀ (D : List OpD) (k : Nat) (a : Act), (bGo ops vs D k a).tmps.size = a.tmps.size
  | [], _, _ => rfl
  | d :: r, k, a => by rw [bGo, bGo_size ops vs r, put_size]
theorem bGo_defers (ops : Array Oper) (vs : Vs) : ∀ (D : List OpD) (k : Nat) (a : Act), (bGo ops vs D k a).defers = a.defers
  | [], _, _ => rfl
  | d :: r, k, a => by rw [bGo, bGo_defers ops vs r, put_defers]
theorem bGo_other (ops : Array Oper) (vs : Vs) (t : Tmp) : ∀ (D : List OpD) (k : Nat) (a : Act), (∀ i, k ≤ i → i < k + D.length → dstOf ops i ≠ some t) → (bGo ops vs D k a).tmps[t]? = a.tmps[t]?
  | [], _, _, _ => rfl
  | d :: r, k, a, h => by
    rw [bGo, bGo_other ops vs t r _ _ (fun i h1 h2 => h i (by omega) (by simp only [List.length_cons]; omega)), put_other _ _ _ _ (h k (Nat.le_refl _) (by simp))]
theorem bGo_at (ops : Array Oper) (vs : Vs) (hdist : ∀ i j t, dstOf ops i = some t → dstOf ops j = some t → i = j) (t : Tmp) (i : Nat) (hi : dstOf ops i = some t) (d : OpD) : ∀ (D : List OpD) (k : Nat) (a : Act), k ≤ i → D[i - k]? = some d → t < a.tmps.size → (bGo ops vs D k a).tmps[t]? = some (d.val i vs)
  | [], k, a, _, h, _ => by simp at h
  | d' :: r, k, a, hk, h, ht => by
    rw [bGo]
    by_cases he : i = k
    · subst he
      rw [Nat.sub_self] at h
      obtain rfl : d' = d := by simpa using h
      rw [bGo_other ops vs t r _ _ (fun j h1 _ hj => by have := hdist _ _ _ hi hj; omega), hi]
      exact put_at _ _ _ ht
    · refine bGo_at ops vs hdist t i hi d r (k + 1) _ (by omega) ?_ (by rw [put_size]; exact ht)
      rw [show i - k = (i - (k + 1)) + 1 by omega] at h
      simpa using h

theorem Fof_append (p : Nat) (vs : Vs) (w : World) : ∀ (Γ Δ : List Ent), Fof (Γ ++ Δ) p vs w → Fof Γ p vs w
  | [], _, _ => trivial
  | e :: r, Δ, h => by
    simp only [List.cons_append, Fof] at h ⊢
    cases hb : Nat.beq e.idx p <;> simp only [hb, cond_true, cond_false] at h ⊢
    · exact Fof_append p vs w r Δ h
    · exact h
theorem Oof_append (p : Nat) (vs : Vs) (g : Nat) : ∀ (Γ Δ : List Ent), Oof Γ p vs g → Oof (Γ ++ Δ) p vs g
  | [], _, h => h.elim
  | e :: r, Δ, h => by
    simp only [List.cons_append, Oof] at h ⊢
    cases hb : Nat.beq e.idx p <;> simp only [hb, cond_true, cond_false] at h ⊢
    · exact Oof_append p vs g r Δ h
    · exact h
theorem Fof_ents (vs : Vs) (w : World) (p : Nat) : ∀ (D : List OpD) (k : Nat), k ≤ p → (Fof (ents D k) p vs w ↔ ∀ d, D[p - k]? = some d → d.F vs w)
  | [], k, _ => by simp [ents, Fof]
  | d :: r, k, hk => by
    by_cases he : p = k
    · subst he
      cases d with
      | cl v u =>
        rw [ents]
        simp only [Nat.sub_self, List.getElem?_cons_zero, Option.some.injEq, forall_eq', OpD.F, iff_true]
        have : ∀ (D : List OpD) (j : Nat), p < j → Fof (ents D j) p vs w := by
          intro D
          induction D with
          | nil => intro j _; trivial
          | cons d r ih =>
            intro j hj
            cases d with
            | cl v u => exact ih _ (by omega)
            | opn F own u e =>
              show (bif Nat.beq j p then F vs w else Fof (ents r (j + 1)) p vs w)
              cases hb : Nat.beq j p
              · exact ih _ (by omega)
              · have := Nat.eq_of_beq_eq_true hb; omega
        exact this r (p + 1) (by omega)
      | opn F own u e =>
        simp [ents, Fof, OpD.F]
    · have hrec := Fof_ents vs w p r (k + 1) (by omega)
      rw [show p - k = (p - (k + 1)) + 1 by omega, List.getElem?_cons_succ, ← hrec]
      cases d with
      | cl v u => rfl
      | opn F own u e =>
        show (bif Nat.beq k p then F vs w else Fof (ents r (k + 1)) p vs w) ↔ _
        cases hb : Nat.beq k p
        · rfl
        · exact absurd (Nat.eq_of_beq_eq_true hb).symm he
theorem Oof_ents (vs : Vs) (g : Nat) (p : Nat) : ∀ (D : List OpD) (k : Nat), k ≤ p → (Oof (ents D k) p vs g ↔ ∃ d, D[p - k]? = some d ∧ d.own vs g)
  | [], k, _ => by simp [ents, Oof]
  | d :: r, k, hk => by
    by_cases he : p = k
    · subst he
      cases d with
      | cl v u =>
        rw [ents]
        simp only [Nat.sub_self, List.getElem?_cons_zero, Option.some.injEq, OpD.own, exists_eq_left', iff_false]
        have : ∀ (D : List OpD) (j : Nat), p < j → ¬ Oof (ents D j) p vs g := by
          intro D
          induction D with
          | nil => intro j _ h; exact h
          | cons d r ih =>
            intro j hj
            cases d with
            | cl v u => exact ih _ (by omega)
            | opn F own u e =>
              show ¬ (bif Nat.beq j p then own vs g else Oof (ents r (j + 1)) p vs g)
              cases hb : Nat.beq j p
              · exact ih _ (by omega)
              · have := Nat.eq_of_beq_eq_true hb; omega
        exact this r (p + 1) (by omega)
      | opn F own u e =>
        simp [ents, Oof, OpD.own]
    · have hrec := Oof_ents vs g p r (k + 1) (by omega)
      rw [show p - k = (p - (k + 1)) + 1 by omega, List.getElem?_cons_succ, ← hrec]
      cases d with
      | cl v u => rfl
      | opn F own u e =>
        show (bif Nat.beq k p then own vs g else Oof (ents r (k + 1)) p vs g) ↔ _
        cases hb : Nat.beq k p
        · rfl
        · exact absurd (Nat.eq_of_beq_eq_true hb).symm he

/-! ### The frame's places that an operation looks at -/
def lookChk (ops : Array Oper) : Bool :=
  (List.range ops.size).all fun i => match ops[i]? with
    | none => true
    | some o => (o.looksAt ops).all fun t => (List.range ops.size).all fun j => !(dstOf ops j == some t) || Nat.beq j i || (Nat.blt j i && maskOf ops i j) || (Nat.blt i j && maskOf ops j i)
def distChk (ops : Array Oper) : Bool :=
  (List.range ops.size).all fun i => (List.range ops.size).all fun j => Nat.beq i j || (match dstOf ops i with | none => true | some t => !(dstOf ops j == some t))
def topoChk (ops : Array Oper) : Bool :=
  (List.range ops.size).all fun i => match ops[i]? with
    | none => true
    | some o => o.after.all fun e => !Region.binds .any e || Nat.blt e.on i
def globChk (ops : Array Oper) : Bool := Region.noSelect ops && lookChk ops && distChk ops && topoChk ops
theorem topo_of {ops : Array Oper} (h : topoChk ops = true) {i : Nat} {o : Oper} (ho : ops[i]? = some o) {e : Edge} (he : e ∈ o.after) (hb : Region.binds .any e = true) : e.on < i := by
  have h1 := List.all_eq_true.1 h i (List.mem_range.2 (Array.getElem?_eq_some_iff.1 ho).1)
  rw [ho] at h1
  have h2 := Array.all_eq_true_iff_forall_mem.1 h1 e he
  simp only [hb, Bool.not_true, Bool.false_or] at h2
  rw [Nat.blt_eq] at h2; exact h2
theorem all_listed {ops : Array Oper} (h : topoChk ops = true) {listed : Array Bool} (hs : listed.size = ops.size) (hr : Region.ready .any ops listed = []) : ∀ i, i < ops.size → listed.getD i false = true := by
  intro i
  induction i using Nat.strongRecOn with
  | _ i ih =>
    intro hi
    cases hl : listed.getD i false
    · exfalso
      have hlt : i < listed.size := by omega
      obtain ⟨o, ho⟩ : ∃ o, ops[i]? = some o := ⟨_, Array.getElem?_eq_getElem hi⟩
      have : i ∈ Region.ready .any ops listed := mem_ready.2 ⟨by simpa [hlt] using hl, o, ho, fun e he hb => by
        have := topo_of h ho he hb
        exact ih _ this (by omega)⟩
      rw [hr] at this; cases this
    · rfl

theorem dstOf_lt {ops : Array Oper} {i : Nat} {t : Tmp} (h : dstOf ops i = some t) : i < ops.size := by
  unfold dstOf at h
  rcases Nat.lt_or_ge i ops.size with h' | h'
  · exact h'
  · rw [Array.getElem?_eq_none h'] at h; cases h
theorem dist_of {ops : Array Oper} (h : distChk ops = true) (i j : Nat) (t : Tmp) (hi : dstOf ops i = some t) (hj : dstOf ops j = some t) : i = j := by
  have h1 := List.all_eq_true.1 (List.all_eq_true.1 h i (List.mem_range.2 (dstOf_lt hi))) j (List.mem_range.2 (dstOf_lt hj))
  rw [hi, hj] at h1
  simpa using h1
theorem look_of {ops : Array Oper} (h : lookChk ops = true) {i : Nat} {o : Oper} (ho : ops[i]? = some o) {t : Tmp} (ht : t ∈ o.looksAt ops) {j : Nat} (hj : dstOf ops j = some t) :
    j = i ∨ (j < i ∧ Pre ops j i) ∨ (i < j ∧ Pre ops i j) := by
  have h1 := List.all_eq_true.1 h i (List.mem_range.2 (Array.getElem?_eq_some_iff.1 ho).1)
  rw [ho] at h1
  have h2 := List.all_eq_true.1 (List.all_eq_true.1 h1 t ht) j (List.mem_range.2 (dstOf_lt hj))
  rw [hj] at h2
  simp only [BEq.rfl, Bool.not_true, Bool.false_or, Bool.or_eq_true, Bool.and_eq_true] at h2
  rcases h2 with (h2 | ⟨h2, h3⟩) | ⟨h2, h3⟩
  · exact .inl (Nat.eq_of_beq_eq_true h2)
  · exact .inr (.inl ⟨(by rw [Nat.blt_eq] at h2; exact h2), pre_of h3⟩)
  · exact .inr (.inr ⟨(by rw [Nat.blt_eq] at h2; exact h2), pre_of h3⟩)

/-! ### One operation at another frame that agrees with the first on what it looks at -/
theorem wp_false {P : Program} {o : Oper} {a : Act} {w : World} {K : Act → World → Prop} {Q : Exit → Act → World → Prop} (h : o.wp P a w K (fun _ _ _ => False)) : o.wp P a w K Q := by
  unfold Oper.wp at *
  generalize (execOp a.eval o).run P w = r at *
  cases r with
  | ok n w' =>
    cases n <;> simp only [Oper.upon] at h ⊢ <;> first
      | exact h
      | exact Calls.mono h (fun e w'' he => by
          cases e with
          | returned v => exact he
          | panicked c => exact he.elim
          | outgrown => obtain ⟨_, _, h⟩ := he; exact h.elim)
  | halt x w' => cases x <;> simp only [Oper.upon] at h ⊢

theorem put_same {a b : Act} (hs : a.tmps.size = b.tmps.size) {d : Option Tmp} {v u : Value} (h : b.put d v = b.put d u) : a.put d v = a.put d u := by
  cases d with
  | none => rfl
  | some t =>
    by_cases ht : t < a.tmps.size
    · have ht' : t < b.tmps.size := by rw [← hs]; exact ht
      have e1 := put_at b t v ht'
      rw [h, put_at b t u ht'] at e1
      injection e1 with e1
      rw [e1]
    · have h0 : ∀ x : Value, a.tmps.setIfInBounds t x = a.tmps := fun x => by rw [Array.setIfInBounds]; simp [ht]
      simp only [Act.put, h0]

theorem wp_move {P : Program} {o : Oper} {a b : Act} {w : World} {R : Value → World → Prop} (hs : a.tmps.size = b.tmps.size) (he : execOp a.eval o = execOp b.eval o)
    (h : o.wp P b w (fun a' w' => ∃ v, a' = b.put o.dst v ∧ R v w') (fun _ _ _ => False)) : o.wp P a w (fun a' w' => ∃ v, a' = a.put o.dst v ∧ R v w') (fun _ _ _ => False) := by
  unfold Oper.wp at *
  rw [he]
  generalize (execOp b.eval o).run P w = r at *
  cases r with
  | ok n w' =>
    cases n <;> simp only [Oper.upon] at h ⊢
    case value v => obtain ⟨u, hu, hR⟩ := h; exact ⟨u, put_same hs hu, hR⟩
    case skip => obtain ⟨u, hu, hR⟩ := h; exact ⟨u, put_same hs hu, hR⟩
    case defer d =>
      obtain ⟨u, hu, hR⟩ := h
      exfalso
      have h1 := congrArg (fun a : Act => a.defers.length) hu
      simp [put_defers] at h1
    case enter f args =>
      refine Calls.mono h fun e w'' he => ?_
      cases e with
      | returned v => obtain ⟨u, hu, hR⟩ := he; exact ⟨u, put_same hs hu, hR⟩
      | panicked c => exact he
      | outgrown => obtain ⟨_, _, h⟩ := he; exact h.elim
    case row row args => exact Rows.mono h fun v w'' ⟨u, hu, hR⟩ => ⟨u, put_same hs hu, hR⟩
  | halt x w' => cases x <;> simp only [Oper.upon] at h ⊢

theorem eval_agree {a b : Act} {x : Operand} (h : ∀ t, x = .tmp t → a.tmps[t]? = b.tmps[t]?) : a.eval x = b.eval x := by
  cases x with
  | tmp t =>
    have := h t rfl
    simp only [Act.eval, Array.getD_eq_getD_getElem?, this]
  | _ => rfl
theorem exec_agree {ops : Array Oper} {o : Oper} (hs : ∀ cs b, o.op ≠ .select cs b) {a b : Act} (h : ∀ t, t ∈ o.looksAt ops → a.tmps[t]? = b.tmps[t]?) : execOp a.eval o = execOp b.eval o :=
  execOp_congr o hs fun x hx => eval_agree fun t ht => h t (by
    subst ht
    exact List.mem_append_left _ (List.mem_filterMap.2 ⟨.tmp t, by simpa using hx, rfl⟩))
theorem wanted_agree {ops : Array Oper} {o : Oper} {a b : Act} (h : ∀ t, t ∈ o.looksAt ops → a.tmps[t]? = b.tmps[t]?) : Region.wanted o (yielded ops a.tmps) = Region.wanted o (yielded ops b.tmps) := by
  unfold Region.wanted
  cases hg : o.guard with
  | none => rfl
  | some gw =>
    obtain ⟨g, want⟩ := gw
    have hy : yielded ops a.tmps g = yielded ops b.tmps g := by
      unfold yielded
      cases ht : (ops[g]?).bind (·.dst) with
      | none => rfl
      | some t =>
        have := h t (by simp [Oper.looksAt, hg, ht])
        simp only [Option.bind_some, this]
    simp only [hy]

/-! ### The law -/
/-- what is asked of operation k, those before it being D -/
def Asked (P : Program) (ops : Array Oper) (X0 : Nat → Prop) (w0 : World) (S : World → Prop) (a0 : Act) (G0 : Ent) (D : List OpD) (k : Nat) (o : Oper) : OpD → Prop
  | .cl v uses => chk ops (shs D 0) k uses [] = true ∧ ∀ vs w, Keeps X0 w0 w → S w → (∀ p ∈ uses, Fof (G0 :: ents D 0) p vs w) →
      Runs P ops o (bGo ops vs D 0 a0) w fun v' w' => v' = v ∧ Keeps (fun _ => False) w w'
  | .opn F own uses eats => chk ops (shs D 0) k uses eats = true ∧
      (∀ vs vs' : Vs, (∀ i, i = k ∨ maskOf ops k i = true → vs i = vs' i) → F vs = F vs' ∧ own vs = own vs') ∧
      (∀ vs w w', F vs w → Sta (fun g => (g < w0.heap.size ∧ ¬ X0 g) ∨ own vs g) w w' → F vs w') ∧
      ∀ vs w, Keeps X0 w0 w → S w → (∀ p ∈ uses, Fof (G0 :: ents D 0) p vs w) → Runs P ops o (bGo ops vs D 0 a0) w fun v w' =>
        F (upd vs k v) w' ∧ Keeps (fun g => ∃ p ∈ eats, Oof (G0 :: ents D 0) p vs g) w w' ∧ ∀ g, own (upd vs k v) g → g < w'.heap.size ∧ (w.heap.size ≤ g ∨ ∃ p ∈ eats, Oof (G0 :: ents D 0) p vs g)

section
variable {P : Program} {ops : Array Oper} {Q : Exit → Act → World → Prop} {X0 : Nat → Prop} {w0 : World} {S : World → Prop}

theorem ROK.data {a0 : Act} {G0 : Ent} {rest : List Oper} {k : Nat} {sh : List Shape} {Γ : List Ent} {b : Vs → Act} (h : ROK P ops Q X0 w0 S rest k sh Γ b) :
    ∀ D : List OpD, D.length = k → k ≤ ops.size → sh = shs D 0 → Γ = G0 :: ents D 0 → (∀ vs, b vs = bGo ops vs D 0 a0) → ops.toList.drop k = rest →
    ∃ E : List OpD, (D ++ E).length = ops.size ∧ (∀ j o d, E[j]? = some d → ops[k + j]? = some o → Asked P ops X0 w0 S a0 G0 (D ++ E.take j) (k + j) o d) ∧
      ∀ vs w, Keeps X0 w0 w → S w → (∀ p, ((shs (D ++ E) 0).all fun s => !s.eats.contains p) = true → Fof (G0 :: ents (D ++ E) 0) p vs w) → Q .normal (bGo ops vs (D ++ E) 0 a0) w := by
  have go : ∀ (o : Oper) (rest : List Oper) (D : List OpD) (d : OpD) (b : Vs → Act), ops.toList.drop D.length = o :: rest → (∀ vs, b vs = bGo ops vs D 0 a0) → Asked P ops X0 w0 S a0 G0 D D.length o d →
      (∀ D', D' = D ++ [d] → (∀ vs, (b vs).put o.dst (d.val D.length vs) = bGo ops vs D' 0 a0) → D.length + 1 ≤ ops.size → ops.toList.drop (D.length + 1) = rest → ∃ E : List OpD, (D' ++ E).length = ops.size ∧ (∀ j o d, E[j]? = some d → ops[D.length + 1 + j]? = some o → Asked P ops X0 w0 S a0 G0 (D' ++ E.take j) (D.length + 1 + j) o d) ∧
        ∀ vs w, Keeps X0 w0 w → S w → (∀ p, ((shs (D' ++ E) 0).all fun s => !s.eats.contains p) = true → Fof (G0 :: ents (D' ++ E) 0) p vs w) → Q .normal (bGo ops vs (D' ++ E) 0 a0) w) →
      ∃ E : List OpD, (D ++ E).length = ops.size ∧ (∀ j o d, E[j]? = some d → ops[D.length + j]? = some o → Asked P ops X0 w0 S a0 G0 (D ++ E.take j) (D.length + j) o d) ∧
        ∀ vs w, Keeps X0 w0 w → S w → (∀ p, ((shs (D ++ E) 0).all fun s => !s.eats.contains p) = true → Fof (G0 :: ents (D ++ E) 0) p vs w) → Q .normal (bGo ops vs (D ++ E) 0 a0) w := by
    intro o rest D d b hr hb hA ih
    have ho : ops.toList[D.length]? = some o := by
      have := congrArg List.head? hr
      rwa [List.head?_drop, List.head?_cons] at this
    have ho' : ops[D.length]? = some o := by simpa using ho
    obtain ⟨E, h1, h2, h3⟩ := ih _ rfl (fun vs => by
        rw [bGo_append, ← hb, Nat.zero_add]
        show _ = (b vs).put (dstOf ops D.length) _
        rw [dstOf, ho']
        rfl) (Array.getElem?_eq_some_iff.1 ho').1 (by rw [← List.drop_drop, hr]; rfl)
    refine ⟨d :: E, by simpa using h1, fun j o' d' hj hoj => ?_, ?_⟩
    · cases j with
      | zero =>
        obtain rfl : d = d' := by simpa using hj
        rw [Nat.add_zero] at hoj ⊢
        rw [ho'] at hoj
        injection hoj with hoj
        subst hoj
        rw [List.take_zero, List.append_nil]
        exact hA
      | succ j =>
        have := h2 j o' d' (by simpa using hj) (by rw [← hoj]; congr 1; omega)
        rw [List.take_succ_cons]
        rw [show D.length + (j + 1) = D.length + 1 + j by omega]
        rwa [List.append_assoc] at this
    · intro vs w hk hS hF
      have e : D ++ d :: E = D ++ [d] ++ E := by rw [List.append_assoc]; rfl
      rw [e] at hF ⊢
      exact h3 vs w hk hS hF
  induction h with
  | done h =>
    rintro D rfl hkl rfl rfl hb hr
    refine ⟨[], ?_, fun j o d hj => by simp at hj, fun vs w hk hS hF => ?_⟩
    · have h1 : ops.toList.length ≤ D.length := List.drop_eq_nil_iff.1 hr
      rw [Array.length_toList] at h1
      rw [List.append_nil]; omega
    · rw [List.append_nil] at hF ⊢
      rw [← hb]
      exact h vs w hk hS hF
  | @val o rest k sh Γ b v uses hc h hr ih =>
    rintro D rfl hkl rfl rfl hb hrest
    refine go o rest D (.cl v uses) b hrest hb ⟨hc, fun vs w hk hS hF => ?_⟩ ?_
    · rw [← hb]; exact h vs w hk hS hF
    · rintro D' rfl hb' hle hr'
      exact ih (D ++ [OpD.cl v uses]) (by simp) hle (by rw [shs_append, Nat.zero_add]; rfl) (by rw [ents_append]; simp [ents]) (fun vs => hb' vs) hr'
  | @op o rest k sh Γ b F own uses eats hc hd hs h hr ih =>
    rintro D rfl hkl rfl rfl hb hrest
    refine go o rest D (.opn F own uses eats) b hrest hb ⟨hc, hd, hs, fun vs w hk hS hF => ?_⟩ ?_
    · rw [← hb]; exact h vs w hk hS hF
    · rintro D' rfl hb' hle hr'
      exact ih (D ++ [OpD.opn F own uses eats]) (by simp) hle (by rw [shs_append, Nat.zero_add]; rfl) (by rw [ents_append]; simp [ents]) (fun vs => hb' vs) hr'

theorem chk_use {sh : List Shape} {k p : Nat} {uses eats : List Nat} (h : chk ops sh k uses eats = true) (hp : p ∈ uses) : (ops.size ≤ p ∨ Pre ops p k) ∧ ∀ s ∈ sh, p ∉ s.eats := by
  simp only [chk, Bool.and_eq_true, List.all_eq_true] at h
  have h1 := h.1 p hp
  simp only [Bool.or_eq_true] at h1
  refine ⟨h1.1.imp (fun h => Nat.le_of_ble_eq_true h) pre_of, fun s hs hm => ?_⟩
  have := h1.2 s hs
  simp [hm] at this
theorem chk_eat {sh : List Shape} {k p : Nat} {uses eats : List Nat} (h : chk ops sh k uses eats = true) (hp : p ∈ eats) : p ∈ uses ∧ ∀ s ∈ sh, p ∈ s.uses → Pre ops s.idx k := by
  simp only [chk, Bool.and_eq_true, List.all_eq_true] at h
  have h1 := h.2 p hp
  refine ⟨by simpa using h1.1, fun s hs hm => ?_⟩
  have := h1.2 s hs
  simp only [Bool.or_eq_true, Bool.not_eq_true'] at this
  rcases this with h' | h'
  · rw [List.contains_eq_mem] at h'; simp [hm] at h'
  · exact pre_of h'
theorem mem_shs {s : Shape} : ∀ (D : List OpD) (k : Nat), s ∈ shs D k ↔ ∃ (j : Nat) (d : OpD), D[j]? = some d ∧ s = d.sh (k + j)
  | [], k => by simp [shs]
  | d :: r, k => by
    rw [shs, List.mem_cons, mem_shs r (k + 1)]
    constructor
    · rintro (rfl | ⟨j, d', hj, rfl⟩)
      · exact ⟨0, d, rfl, rfl⟩
      · exact ⟨j + 1, d', by simpa using hj, by rw [Nat.add_assoc k 1 j, Nat.add_comm 1 j]⟩
    · rintro ⟨j, d', hj, rfl⟩
      cases j with
      | zero => left; simp at hj; rw [hj]; rfl
      | succ j => right; exact ⟨j, d', by simpa using hj, by rw [Nat.add_assoc k 1 j, Nat.add_comm 1 j]⟩

section
variable {a0 : Act} {F0 : World → Prop}

def G0 (ops : Array Oper) (X0 : Nat → Prop) (F0 : World → Prop) : Ent := ⟨ops.size, fun _ => F0, fun _ => X0⟩
/-- what is known of number p, if D is all -/
def FF (ops : Array Oper) (F0 : World → Prop) (D : List OpD) (p : Nat) (vs : Vs) (w : World) : Prop := if p = ops.size then F0 w else ∀ d, D[p]? = some d → d.F vs w
def OO (ops : Array Oper) (X0 : Nat → Prop) (D : List OpD) (p : Nat) (vs : Vs) (g : Nat) : Prop := if p = ops.size then X0 g else ∃ d, D[p]? = some d ∧ d.own vs g
theorem Fof_G0 (D : List OpD) (p : Nat) (vs : Vs) (w : World) : Fof (G0 ops X0 F0 :: ents D 0) p vs w ↔ FF ops F0 D p vs w := by
  unfold FF
  show (bif Nat.beq ops.size p then F0 w else Fof (ents D 0) p vs w) ↔ _
  cases hb : Nat.beq ops.size p
  · rw [if_neg (fun e => by rw [e, Nat.beq_refl] at hb; cases hb)]
    simpa using Fof_ents vs w p D 0 (Nat.zero_le _)
  · rw [if_pos (Nat.eq_of_beq_eq_true hb).symm]; rfl
theorem Oof_G0 (D : List OpD) (p : Nat) (vs : Vs) (g : Nat) : Oof (G0 ops X0 F0 :: ents D 0) p vs g ↔ OO ops X0 D p vs g := by
  unfold OO
  show (bif Nat.beq ops.size p then X0 g else Oof (ents D 0) p vs g) ↔ _
  cases hb : Nat.beq ops.size p
  · rw [if_neg (fun e => by rw [e, Nat.beq_refl] at hb; cases hb)]
    simpa using Oof_ents vs g p D 0 (Nat.zero_le _)
  · rw [if_pos (Nat.eq_of_beq_eq_true hb).symm]; rfl

structure Inv (ops : Array Oper) (X0 : Nat → Prop) (w0 : World) (a0 : Act) (F0 : World → Prop) (D : List OpD) (listed : Array Bool) (a : Act) (w : World) (vs : Vs) : Prop where
  size : listed.size = ops.size
  down : ∀ i p, listed.getD i false = true → Pre ops p i → listed.getD p false = true
  keeps : Keeps X0 w0 w
  defers : a.defers = a0.defers
  tsize : a.tmps.size = a0.tmps.size
  slot : ∀ i t d, listed.getD i false = true → dstOf ops i = some t → t < a0.tmps.size → D[i]? = some d → a.tmps[t]? = some (d.val i vs)
  other : ∀ t, (∀ i, listed.getD i false = true → dstOf ops i ≠ some t) → a.tmps[t]? = a0.tmps[t]?
  fact : ∀ p, (ops.size ≤ p ∨ listed.getD p false = true) → (∀ j d, D[j]? = some d → p ∈ d.eats → listed.getD j false = false) →
    FF ops F0 D p vs w ∧ ∀ g, OO ops X0 D p vs g → g < w.heap.size ∧ ¬ (g < w0.heap.size ∧ ¬ X0 g)
  disj : ∀ p q, (ops.size ≤ p ∨ listed.getD p false = true) → (∀ j d, D[j]? = some d → p ∈ d.eats → listed.getD j false = false) →
    (ops.size ≤ q ∨ listed.getD q false = true) → (∀ j d, D[j]? = some d → q ∈ d.eats → listed.getD j false = false) → p ≠ q → ∀ g, OO ops X0 D p vs g → ¬ OO ops X0 D q vs g

theorem listed_set {listed : Array Bool} {i j : Nat} (h : (listed.setIfInBounds i true).getD j false = true) : j = i ∨ listed.getD j false = true := by
  by_cases hij : i = j
  · exact .inl hij.symm
  · rw [getD_set_ne false hij] at h; exact .inr h
theorem listed_keep {listed : Array Bool} {i j : Nat} (h : (listed.setIfInBounds i true).getD j false = false) : listed.getD j false = false := by
  cases hj : listed.getD j false
  · rfl
  · rw [getD_set_true hj] at h; exact h
theorem take_get {D : List OpD} {i j : Nat} {d : OpD} (h : (D.take i)[j]? = some d) : j < i ∧ D[j]? = some d := by
  rw [List.getElem?_take] at h
  split at h
  · exact ⟨‹_›, h⟩
  · cases h

theorem Inv.step {D : List OpD} (hg : globChk ops = true) (hX : ∀ g, X0 g → g < w0.heap.size) (hF0 : ∀ w w', F0 w → Sta (fun g => (g < w0.heap.size ∧ ¬ X0 g) ∨ X0 g) w w' → F0 w') (hS : ∀ w, Keeps X0 w0 w → S w)
    (hD : D.length = ops.size) (hA : ∀ j o d, D[j]? = some d → ops[j]? = some o → Asked P ops X0 w0 S a0 (G0 ops X0 F0) (D.take j) j o d)
    {listed : Array Bool} {a : Act} {w : World} {vs : Vs} (hI : Inv ops X0 w0 a0 F0 D listed a w vs) {i : Nat} (hi : i ∈ Region.ready .any ops listed) :
    wpOp P ops Q i (fun a' w' => ∃ vs', Inv ops X0 w0 a0 F0 D (listed.setIfInBounds i true) a' w' vs') a w := by
  simp only [globChk, Bool.and_eq_true] at hg
  obtain ⟨⟨⟨hsel, hlook⟩, hdist⟩, htopo⟩ := hg
  obtain ⟨hun, o, ho, hafter⟩ := mem_ready.1 hi
  have hilt : i < ops.size := (Array.getElem?_eq_some_iff.1 ho).1
  have hun' : listed.getD i false = false := by
    have : i < listed.size := by rw [hI.size]; exact hilt
    simp only [Array.getD_eq_getD_getElem?, Array.getElem?_eq_getElem this] at hun ⊢
    exact hun
  have hpre : ∀ p, Pre ops p i → listed.getD p false = true := by
    intro p hp
    cases hp with
    | edge ho' he hb => rw [ho] at ho'; injection ho' with ho'; subst ho'; exact hafter _ he hb
    | more ho' he hb hp => rw [ho] at ho'; injection ho' with ho'; subst ho'; exact hI.down _ _ (hafter _ he hb) hp
  obtain ⟨d, hd⟩ : ∃ d, D[i]? = some d := ⟨_, List.getElem?_eq_getElem (by rw [hD]; exact hilt)⟩
  have hask := hA i o d hd ho
  have hdst : dstOf ops i = o.dst := by rw [dstOf, ho]; rfl
  -- the frame at hand agrees with the one that was asked about
  have hagree : ∀ t, t ∈ o.looksAt ops → a.tmps[t]? = (bGo ops vs (D.take i) 0 a0).tmps[t]? := by
    intro t ht
    by_cases hex : ∃ j, dstOf ops j = some t
    · obtain ⟨j, hj⟩ := hex
      have notI : ∀ j', dstOf ops j' = some t → j' = j := fun j' h => dist_of hdist _ _ _ h hj
      have later : listed.getD j false = false → i ≤ j → a.tmps[t]? = (bGo ops vs (D.take i) 0 a0).tmps[t]? := fun hl hij => by
        rw [hI.other t (fun j' h1 h2 => by rw [notI j' h2, hl] at h1; cases h1), bGo_other ops vs t _ _ _ (fun j' _ h2 h3 => by
          have := notI j' h3
          rw [List.length_take] at h2
          omega)]
      rcases look_of hlook ho ht hj with rfl | ⟨hlt, hp⟩ | ⟨hlt, hp⟩
      · exact later hun' (Nat.le_refl _)
      · obtain ⟨dj, hdj⟩ : ∃ d, D[j]? = some d := ⟨_, List.getElem?_eq_getElem (by rw [hD]; omega)⟩
        by_cases hts : t < a0.tmps.size
        · rw [hI.slot j t dj (hpre _ hp) hj hts hdj]
          rw [bGo_at ops vs (fun i j t => dist_of hdist i j t) t j hj dj (D.take i) 0 a0 (Nat.zero_le _) (by rw [Nat.sub_zero, List.getElem?_take, if_pos hlt, hdj]) hts]
        · have hts' : a0.tmps.size ≤ t := Nat.le_of_not_lt hts
          rw [Array.getElem?_eq_none (by rw [hI.tsize]; exact hts'), Array.getElem?_eq_none (by rw [bGo_size]; exact hts')]
      · refine later ?_ (by omega)
        cases hl : listed.getD j false
        · rfl
        · have := hI.down _ _ hl hp
          rw [hun'] at this; cases this
    · rw [hI.other t (fun j h1 h2 => hex ⟨j, h2⟩), bGo_other ops vs t _ _ _ (fun j _ _ h3 => hex ⟨j, h3⟩)]
  have hsize : a.tmps.size = (bGo ops vs (D.take i) 0 a0).tmps.size := by rw [bGo_size, hI.tsize]
  have hexec : execOp a.eval o = execOp (bGo ops vs (D.take i) 0 a0).eval o := exec_agree (fun cs b => Region.noSelect_spec hsel i o cs b ho) hagree
  have hwant := wanted_agree hagree
  -- who is asked about is alive
  have halive : ∀ uses eats, chk ops (shs (D.take i) 0) i uses eats = true → d.uses = uses → ∀ p ∈ uses, (ops.size ≤ p ∨ listed.getD p false = true) ∧ (∀ j dj, D[j]? = some dj → p ∈ dj.eats → listed.getD j false = false) := by
    intro uses eats hc hu p hp
    obtain ⟨h1, h2⟩ := chk_use hc hp
    refine ⟨h1.imp id (hpre p), fun j dj hj hm => ?_⟩
    rcases Nat.lt_trichotomy j i with hlt | rfl | hlt
    · exact absurd hm (h2 (dj.sh (0 + j)) ((mem_shs _ _).2 ⟨j, dj, by rw [List.getElem?_take, if_pos hlt, hj], rfl⟩))
    · exact hun'
    · obtain ⟨oj, hoj⟩ : ∃ oj, ops[j]? = some oj := ⟨_, Array.getElem?_eq_getElem (by have := (List.getElem?_eq_some_iff.1 hj).1; omega)⟩
      have hcj : ∃ u, chk ops (shs (D.take j) 0) j u dj.eats = true := by
        have := hA j oj dj hj hoj
        cases dj with
        | cl v u => exact ⟨u, this.1⟩
        | opn F own u e => exact ⟨u, this.1⟩
      obtain ⟨u, hcj⟩ := hcj
      have h3 := (chk_eat hcj hm).2 (d.sh (0 + i)) ((mem_shs _ _).2 ⟨i, d, by rw [List.getElem?_take, if_pos hlt, hd], rfl⟩) (by show p ∈ d.uses; rw [hu]; exact hp)
      have h3' : Pre ops i j := by have e : (d.sh (0 + i)).idx = i := Nat.zero_add i; rwa [e] at h3
      cases hl : listed.getD j false
      · rfl
      · have := hI.down _ _ hl h3'
        rw [hun'] at this; cases this
  have hfull : ∀ (p : Nat) (vs : Vs) (w : World), FF ops F0 D p vs w → Fof (G0 ops X0 F0 :: ents (D.take i) 0) p vs w := fun p vs w h => by
    have := (Fof_G0 (X0 := X0) D p vs w).2 h
    have e : ents D 0 = ents (D.take i) 0 ++ ents (D.drop i) (0 + (D.take i).length) := by rw [← ents_append, List.take_append_drop]
    rw [e, ← List.cons_append] at this
    exact Fof_append _ _ _ _ _ this
  have hfullO : ∀ (p : Nat) (vs : Vs) (g : Nat), Oof (G0 ops X0 F0 :: ents (D.take i) 0) p vs g → OO ops X0 D p vs g := fun p vs g h => by
    rw [← Oof_G0 (F0 := F0)]
    have e : ents D 0 = ents (D.take i) 0 ++ ents (D.drop i) (0 + (D.take i).length) := by rw [← ents_append, List.take_append_drop]
    rw [e, ← List.cons_append]
    exact Oof_append _ _ _ _ _ h
  -- other facts do not look at what i leaves
  have hdepF : ∀ v p, p ≠ i → (ops.size ≤ p ∨ listed.getD p false = true) → ∀ w, FF ops F0 D p vs w → FF ops F0 D p (upd vs i v) w := by
    intro v p hpi hpl w h
    unfold FF at h ⊢
    split
    · rename_i e; rw [if_pos e] at h; exact h
    · rename_i e
      rw [if_neg e] at h
      intro dp hdp
      have hplt : p < ops.size := by have := (List.getElem?_eq_some_iff.1 hdp).1; omega
      have hl := hpl.resolve_left (by omega)
      have h1 := h dp hdp
      cases dp with
      | cl v u => trivial
      | opn F own u e =>
        have hq := (hA p _ _ hdp (Array.getElem?_eq_getElem hplt)).2.1 vs (upd vs i v) (fun j hj => (upd_ne vs v (by
          rintro rfl
          rcases hj with rfl | hj
          · exact hpi rfl
          · have := hI.down _ _ hl (pre_of hj); rw [hun'] at this; cases this)).symm)
        show F (upd vs i v) w
        rw [← hq.1]; exact h1
  have hdepO : ∀ v p, p ≠ i → (ops.size ≤ p ∨ listed.getD p false = true) → ∀ g, OO ops X0 D p (upd vs i v) g → OO ops X0 D p vs g := by
    intro v p hpi hpl g h
    unfold OO at h ⊢
    split
    · rename_i e; rw [if_pos e] at h; exact h
    · rename_i e
      rw [if_neg e] at h
      obtain ⟨dp, hdp, h1⟩ := h
      have hplt : p < ops.size := by have := (List.getElem?_eq_some_iff.1 hdp).1; omega
      have hl := hpl.resolve_left (by omega)
      refine ⟨dp, hdp, ?_⟩
      cases dp with
      | cl v u => exact h1
      | opn F own u e =>
        have hq := (hA p _ _ hdp (Array.getElem?_eq_getElem hplt)).2.1 vs (upd vs i v) (fun j hj => (upd_ne vs v (by
          rintro rfl
          rcases hj with rfl | hj
          · exact hpi rfl
          · have := hI.down _ _ hl (pre_of hj); rw [hun'] at this; cases this)).symm)
        show own vs g
        rw [hq.2]; exact h1
  -- what is behind the operation
  have hafterI : ∀ v w', d.val i (upd vs i v) = v → (d.F (upd vs i v) w') → (∀ p ∈ d.eats, p ∈ d.uses) → (∀ p ∈ d.uses, (ops.size ≤ p ∨ listed.getD p false = true) ∧ (∀ j dj, D[j]? = some dj → p ∈ dj.eats → listed.getD j false = false)) →
      Keeps (fun g => ∃ p ∈ d.eats, OO ops X0 D p vs g) w w' → (∀ g, d.own (upd vs i v) g → g < w'.heap.size ∧ (w.heap.size ≤ g ∨ ∃ p ∈ d.eats, OO ops X0 D p vs g)) →
      ∃ vs', Inv ops X0 w0 a0 F0 D (listed.setIfInBounds i true) (a.put o.dst v) w' vs' := by
    intro v w' hval hF heu hal hK hown
    have hnE : ∀ g, (g < w0.heap.size ∧ ¬ X0 g) → ¬ ∃ p ∈ d.eats, OO ops X0 D p vs g := fun g hold ⟨p, hp, hg⟩ => by
      have := hal p (heu p hp)
      exact ((hI.fact p this.1 this.2).2 g hg).2 hold
    have hsz0 : w0.heap.size ≤ w.heap.size := hI.keeps.size
    have live' : ∀ p, (∀ j dj, D[j]? = some dj → p ∈ dj.eats → (listed.setIfInBounds i true).getD j false = false) → (∀ j dj, D[j]? = some dj → p ∈ dj.eats → listed.getD j false = false) ∧ p ∉ d.eats := fun p h => by
      refine ⟨fun j dj hj hm => listed_keep (h j dj hj hm), fun hm => ?_⟩
      have := h i d hd hm
      have hlt : i < listed.size := by rw [hI.size]; exact hilt
      simp [hlt] at this
    refine ⟨upd vs i v, ⟨by simpa using hI.size, ?_, ?_, by rw [put_defers]; exact hI.defers, by rw [put_size]; exact hI.tsize, ?_, ?_, ?_, ?_⟩⟩
    · intro j p hj hp
      rcases listed_set hj with rfl | hj
      · exact getD_set_true (hpre p hp)
      · exact getD_set_true (hI.down _ _ hj hp)
    · refine ⟨hK.os.trans hI.keeps.os, hK.tape.trans hI.keeps.tape, hK.output.trans hI.keeps.output, Nat.le_trans hsz0 hK.size, fun g hgl hgx => ?_⟩
      rw [hK.block g (by omega) (hnE g ⟨hgl, hgx⟩), hI.keeps.block g hgl hgx]
    · intro j t dj hj hjt hts hdj
      by_cases hji : j = i
      · subst hji
        rw [hd] at hdj; injection hdj with hdj; subst hdj
        rw [← hdst, hjt, put_at _ _ _ (by rw [hI.tsize]; exact hts), hval]
      · rcases listed_set hj with rfl | hj
        · exact absurd rfl hji
        · rw [put_other _ _ _ _ (fun e => hji (dist_of hdist j i t hjt (by rw [hdst, e]))), hI.slot j t dj hj hjt hts hdj]
          cases dj with
          | cl v u => rfl
          | opn F own u e => show some (vs j) = some (upd vs i v j); rw [upd_ne vs v hji]
    · intro t ht
      have hti : o.dst ≠ some t := by
        rw [← hdst]
        exact ht i (by
          have hlt : i < listed.size := by rw [hI.size]; exact hilt
          simp [hlt])
      rw [put_other _ _ _ _ hti, hI.other t (fun j hj => ht j (getD_set_true hj))]
    · intro p hpl hplive
      obtain ⟨hlv, hne⟩ := live' p hplive
      by_cases hpi : p = i
      · subst hpi
        have hpn : ¬ p = ops.size := by omega
        constructor
        · unfold FF; rw [if_neg hpn]; intro dp hdp; rw [hd] at hdp; injection hdp with hdp; subst hdp; exact hF
        · intro g hg
          unfold OO at hg; rw [if_neg hpn] at hg
          obtain ⟨dp, hdp, hg⟩ := hg
          rw [hd] at hdp; injection hdp with hdp; subst hdp
          obtain ⟨h1, h2⟩ := hown g hg
          refine ⟨h1, ?_⟩
          rcases h2 with h2 | ⟨q, hq, h2⟩
          · rintro ⟨h3, _⟩; omega
          · exact fun hold => hnE g hold ⟨q, hq, h2⟩
      · have hpl' : ops.size ≤ p ∨ listed.getD p false = true := hpl.imp id fun h => (listed_set h).resolve_left hpi
        obtain ⟨hfp, hop⟩ := hI.fact p hpl' hlv
        have hsame : ∀ g, g < w.heap.size → ((g < w0.heap.size ∧ ¬ X0 g) ∨ OO ops X0 D p vs g) → w'.heap[g]? = w.heap[g]? := fun g hgl hgo => hK.block g hgl (by
          rcases hgo with hgo | hgo
          · exact hnE g hgo
          · rintro ⟨q, hq, hq2⟩
            have hqa := hal q (heu q hq)
            have hpq : p ≠ q := by rintro rfl; exact hne hq
            exact hI.disj p q hpl' hlv hqa.1 hqa.2 hpq g hgo hq2)
        constructor
        · have h1 := hdepF v p hpi hpl' w hfp
          unfold FF at h1 ⊢
          split
          · rename_i e
            rw [if_pos e] at h1
            exact hF0 _ _ h1 ⟨hK.size, fun g hgl hgo => hsame g hgl (by
              rcases hgo with hgo | hgo
              · exact .inl hgo
              · exact .inr (by unfold OO; rw [if_pos e]; exact hgo))⟩
          · rename_i e
            rw [if_neg e] at h1
            intro dp hdp
            have hplt : p < ops.size := by have := (List.getElem?_eq_some_iff.1 hdp).1; omega
            have h2 := h1 dp hdp
            cases dp with
            | cl v u => trivial
            | opn F own u e' =>
              refine (hA p _ _ hdp (Array.getElem?_eq_getElem hplt)).2.2.1 _ _ _ h2 ⟨hK.size, fun g hgl hgo => hsame g hgl ?_⟩
              rcases hgo with hgo | hgo
              · exact .inl hgo
              · exact .inr (hdepO v p hpi hpl' g (by unfold OO; rw [if_neg e]; exact ⟨_, hdp, hgo⟩))
        · intro g hg
          obtain ⟨h1, h2⟩ := hop g (hdepO v p hpi hpl' g hg)
          exact ⟨Nat.lt_of_lt_of_le h1 hK.size, h2⟩
    · -- two who are alive share no block
      have hone : ∀ q, (ops.size ≤ q ∨ listed.getD q false = true) → (∀ j dj, D[j]? = some dj → q ∈ dj.eats → listed.getD j false = false) → q ∉ d.eats → ∀ g, d.own (upd vs i v) g → ¬ OO ops X0 D q vs g := by
        intro q hql hqlv hqe g hg hgq
        rcases (hown g hg).2 with h2 | ⟨p, hp, h2⟩
        · have := ((hI.fact q hql hqlv).2 g hgq).1; omega
        · have hpa := hal p (heu p hp)
          have hqp : q ≠ p := by rintro rfl; exact hqe hp
          exact hI.disj q p hql hqlv hpa.1 hpa.2 hqp g hgq h2
      have hii : ∀ g, OO ops X0 D i (upd vs i v) g → d.own (upd vs i v) g := fun g hg => by
        unfold OO at hg; rw [if_neg (by omega)] at hg
        obtain ⟨dp, hdp, hg⟩ := hg
        rw [hd] at hdp; injection hdp with hdp; subst hdp; exact hg
      intro p q hpl hplive hql hqlive hpq g hp hq
      obtain ⟨hlp, hep⟩ := live' p hplive
      obtain ⟨hlq, heq⟩ := live' q hqlive
      by_cases hpi : p = i
      · subst hpi
        have hqi : q ≠ p := Ne.symm hpq
        have hql' : ops.size ≤ q ∨ listed.getD q false = true := hql.imp id fun h => (listed_set h).resolve_left hqi
        exact hone q hql' hlq heq g (hii g hp) (hdepO v q hqi hql' g hq)
      · have hpl' : ops.size ≤ p ∨ listed.getD p false = true := hpl.imp id fun h => (listed_set h).resolve_left hpi
        by_cases hqi : q = i
        · subst hqi
          exact hone p hpl' hlp hep g (hii g hq) (hdepO v p hpi hpl' g hp)
        · have hql' : ops.size ≤ q ∨ listed.getD q false = true := hql.imp id fun h => (listed_set h).resolve_left hqi
          exact hI.disj p q hpl' hlp hql' hlq hpq g (hdepO v p hpi hpl' g hp) (hdepO v q hqi hql' g hq)
  -- the operation itself
  have hSw := hS w hI.keeps
  cases d with
  | cl v uses =>
    obtain ⟨hc, hrun⟩ := hask
    have hal := halive uses [] hc rfl
    have hr := hrun vs w hI.keeps hSw (fun p hp => hfull p vs w (hI.fact p (hal p hp).1 (hal p hp).2).1) (fun a' w' => ∃ v', a' = (bGo ops vs (D.take i) 0 a0).put o.dst v' ∧ (v' = v ∧ Keeps (fun _ => False) w w')) (fun v w' h => ⟨v, rfl, h⟩)
    have fin : ∀ v' w', (v' = v ∧ Keeps (fun _ => False) w w') → ∃ vs', Inv ops X0 w0 a0 F0 D (listed.setIfInBounds i true) (a.put o.dst v') w' vs' := fun v' w' ⟨h1, h2⟩ => by
      subst h1
      exact hafterI v' w' rfl trivial (by simp [OpD.eats]) hal ⟨h2.os, h2.tape, h2.output, h2.size, fun g hgl _ => h2.block g hgl id⟩ (fun g hg => hg.elim)
    unfold wpOp
    simp only [ho]
    rw [hwant]
    split
    · rename_i hw
      rw [if_pos hw] at hr
      refine .inl (wp_false (Oper.wp_mono (fun a' w' h => ?_) (wp_move hsize hexec hr)))
      obtain ⟨v, rfl, h⟩ := h
      exact fin v w' h
    · rename_i hw
      rw [if_neg hw] at hr
      obtain ⟨v, hv, h⟩ := hr
      rw [put_same hsize hv]
      exact fin v w h
  | opn F own uses eats =>
    obtain ⟨hc, hdep, hsta, hrun⟩ := hask
    have hal := halive uses eats hc rfl
    have hr := hrun vs w hI.keeps hSw (fun p hp => hfull p vs w (hI.fact p (hal p hp).1 (hal p hp).2).1) (fun a' w' => ∃ v, a' = (bGo ops vs (D.take i) 0 a0).put o.dst v ∧ (F (upd vs i v) w' ∧ Keeps (fun g => ∃ p ∈ eats, Oof (G0 ops X0 F0 :: ents (D.take i) 0) p vs g) w w' ∧ ∀ g, own (upd vs i v) g → g < w'.heap.size ∧ (w.heap.size ≤ g ∨ ∃ p ∈ eats, Oof (G0 ops X0 F0 :: ents (D.take i) 0) p vs g))) (fun v w' h => ⟨v, rfl, h⟩)
    have fin : ∀ v w', (F (upd vs i v) w' ∧ Keeps (fun g => ∃ p ∈ eats, Oof (G0 ops X0 F0 :: ents (D.take i) 0) p vs g) w w' ∧ ∀ g, own (upd vs i v) g → g < w'.heap.size ∧ (w.heap.size ≤ g ∨ ∃ p ∈ eats, Oof (G0 ops X0 F0 :: ents (D.take i) 0) p vs g)) →
        ∃ vs', Inv ops X0 w0 a0 F0 D (listed.setIfInBounds i true) (a.put o.dst v) w' vs' := fun v w' ⟨h1, h2, h3⟩ =>
      hafterI v w' (upd_same vs i v) h1 (fun p hp => (chk_eat hc hp).1) hal
        ⟨h2.os, h2.tape, h2.output, h2.size, fun g hgl hgn => h2.block g hgl (fun ⟨p, hp, hg⟩ => hgn ⟨p, hp, hfullO p vs g hg⟩)⟩
        (fun g hg => ⟨(h3 g hg).1, (h3 g hg).2.imp id fun ⟨p, hp, hg⟩ => ⟨p, hp, hfullO p vs g hg⟩⟩)
    unfold wpOp
    simp only [ho]
    rw [hwant]
    split
    · rename_i hw
      rw [if_pos hw] at hr
      refine .inl (wp_false (Oper.wp_mono (fun a' w' h => ?_) (wp_move hsize hexec hr)))
      obtain ⟨v, rfl, h⟩ := h
      exact fin v w' h
    · rename_i hw
      rw [if_neg hw] at hr
      obtain ⟨v, hv, h⟩ := hr
      rw [put_same hsize hv]
      exact fin v w h

theorem wpAny_inv {I : Array Bool → Act → World → Prop} (hd : ∀ listed a w, I listed a w → Region.ready .any ops listed = [] → Q .normal a w)
    (hs : ∀ listed a w i, I listed a w → i ∈ Region.ready .any ops listed → wpOp P ops Q i (fun a' w' => I (listed.setIfInBounds i true) a' w') a w)
    (hz : ∀ listed a w, I listed a w → listed.size = ops.size) :
    ∀ (fuel : Nat) (listed : Array Bool) (a : Act) (w : World), (listed.toList.countP (· == false)) ≤ fuel → I listed a w → wpAny P .any ops Q fuel listed a w
  | 0, listed, a, w, hf, hI => by
    have hr : Region.ready .any ops listed = [] := by
      apply List.eq_nil_iff_forall_not_mem.2
      intro i hi
      have h1 := (mem_ready.1 hi).1
      have hlt : i < listed.size := by
        rcases Nat.lt_or_ge i listed.size with h | h
        · exact h
        · simp [Array.getElem?_eq_none h] at h1
      have h2 := (List.countP_eq_zero.1 (Nat.le_zero.1 hf)) listed[i] (by simp)
      simp [hlt] at h1
      simp [h1] at h2
    exact ⟨hr, hd _ _ _ hI hr⟩
  | fuel + 1, listed, a, w, hf, hI => by
    refine ⟨fun hr => hd _ _ _ hI hr, fun i hi => wpOp_mono (fun a' w' h => wpAny_inv hd hs hz fuel _ a' w' ?_ h) (hs listed a w i hI hi)⟩
    have h1 := (mem_ready.1 hi).1
    have hlt : i < listed.size := by
      rcases Nat.lt_or_ge i listed.size with h | h
      · exact h
      · simp [Array.getElem?_eq_none h] at h1
    simp [hlt] at h1
    have h2 : (listed.setIfInBounds i true).toList = listed.toList.set i true := by simp [Array.toList_setIfInBounds]
    rw [h2, List.countP_set (by simpa using hlt)]
    simp [h1]
    have h3 : 0 < listed.toList.countP (fun x => x == false) := List.countP_pos_iff.2 ⟨listed[i], by simp, by simp [h1]⟩
    simp at h3 hf ⊢
    omega

/-- **A region that draws its order, each operation looked at once.** -/
theorem wp_region_inv {id : Nat} {w : World} (S : World → Prop) (X0 : Nat → Prop) (F0 : World → Prop) (hm : P.follows .mixedOrders = true) (hg : globChk ops = true) (hX : ∀ g, X0 g → g < w.heap.size)
    (hF : F0 w.drew) (hF0 : ∀ w1 w2, F0 w1 → Sta (fun g => (g < w.heap.size ∧ ¬ X0 g) ∨ X0 g) w1 w2 → F0 w2) (hS : ∀ w1, Keeps X0 w.drew w1 → S w1)
    (h : ROK P ops Q X0 w.drew S ops.toList 0 [] [G0 ops X0 F0] (fun _ => a0)) : (Code.region id ops true).wp P Q a0 w := by
  obtain ⟨D, hD, hA, hfin⟩ := h.data [] rfl (Nat.zero_le _) rfl rfl (fun _ => rfl) rfl
  rw [List.nil_append] at hD
  simp only [List.nil_append, Nat.zero_add] at hA hfin
  refine wp_region_any hm ?_
  refine wpAny_inv (I := fun listed a w1 => ∃ vs, Inv ops X0 w.drew a0 F0 D listed a w1 vs) ?_ ?_ ?_ _ _ _ _ ?_ ?_
  · rintro listed a w1 ⟨vs, hI⟩ hr
    have hg' := hg
    simp only [globChk, Bool.and_eq_true] at hg'
    obtain ⟨⟨⟨hsel, hlook⟩, hdist⟩, htopo⟩ := hg'
    have hall := all_listed htopo hI.size hr
    have ha : a = bGo ops vs D 0 a0 := by
      have h1 : a.tmps = (bGo ops vs D 0 a0).tmps := by
        apply Array.ext_getElem?
        intro t
        by_cases hex : ∃ j, dstOf ops j = some t
        · obtain ⟨j, hj⟩ := hex
          obtain ⟨dj, hdj⟩ : ∃ d, D[j]? = some d := ⟨_, List.getElem?_eq_getElem (by rw [hD]; exact dstOf_lt hj)⟩
          by_cases hts : t < a0.tmps.size
          · rw [hI.slot j t dj (hall j (dstOf_lt hj)) hj hts hdj, bGo_at ops vs (fun i j t => dist_of hdist i j t) t j hj dj D 0 a0 (Nat.zero_le _) (by rw [Nat.sub_zero, hdj]) hts]
          · have hts' : a0.tmps.size ≤ t := Nat.le_of_not_lt hts
            rw [Array.getElem?_eq_none (by rw [hI.tsize]; exact hts'), Array.getElem?_eq_none (by rw [bGo_size]; exact hts')]
        · rw [hI.other t (fun j _ h2 => hex ⟨j, h2⟩), bGo_other ops vs t _ _ _ (fun j _ _ h3 => hex ⟨j, h3⟩)]
      have h2 : a.defers = (bGo ops vs D 0 a0).defers := by rw [bGo_defers, hI.defers]
      cases a
      generalize bGo ops vs D 0 a0 = b at *
      cases b
      simp only at h1 h2
      rw [h1, h2]
    rw [ha]
    refine hfin vs w1 hI.keeps (hS _ hI.keeps) (fun p hp => ?_)
    rw [Fof_G0]
    by_cases hpn : p = ops.size ∨ p < ops.size
    · refine (hI.fact p ?_ ?_).1
      · exact hpn.imp (fun h => by omega) (hall p)
      · intro j d hj hm
        have h1 := List.all_eq_true.1 hp (d.sh (0 + j)) ((mem_shs _ _).2 ⟨j, d, hj, rfl⟩)
        have h2 : (!d.eats.contains p) = true := h1
        rw [List.contains_eq_mem] at h2
        simp [hm] at h2
    · unfold FF
      rw [if_neg (fun e => hpn (.inl e))]
      intro d hd
      have := (List.getElem?_eq_some_iff.1 hd).1
      exact absurd (.inr (by omega)) hpn
  · rintro listed a w1 i ⟨vs, hI⟩ hi
    exact Inv.step (w0 := w.drew) hg hX hF0 hS hD (fun j o d hd ho => hA j o d hd ho) hI hi
  · rintro listed a w1 ⟨vs, hI⟩
    exact hI.size
  · exact Nat.le_trans List.countP_le_length (by simp)
  · have hz : ∀ i, (Array.replicate ops.size false).getD i false = false := fun i => by
      simp only [Array.getD_eq_getD_getElem?, Array.getElem?_replicate]
      split <;> rfl
    have hno : ∀ i, ¬ (Array.replicate ops.size false).getD i false = true := fun i h => by rw [hz] at h; cases h
    refine ⟨fun _ => undef, ⟨by simp, fun i p h => absurd h (hno i), Keeps.refl _ _, rfl, rfl, fun i t d h => absurd h (hno i), fun t _ => rfl, ?_, ?_⟩⟩
    · intro p hp _
      have hp' : ops.size ≤ p := hp.resolve_right (hno p)
      unfold FF OO
      by_cases e : p = ops.size
      · rw [if_pos e]
        refine ⟨hF, fun g hg' => ?_⟩
        rw [if_pos e] at hg'
        exact ⟨hX g hg', fun h => h.2 hg'⟩
      · rw [if_neg e]
        refine ⟨fun d hd => ?_, fun g hg' => ?_⟩
        · have := (List.getElem?_eq_some_iff.1 hd).1; omega
        · rw [if_neg e] at hg'
          obtain ⟨d, hd, _⟩ := hg'
          have := (List.getElem?_eq_some_iff.1 hd).1; omega
    · intro p q hp _ hq _ hpq g h1 h2
      have hp' : ops.size ≤ p := hp.resolve_right (hno p)
      have hq' : ops.size ≤ q := hq.resolve_right (hno q)
      unfold OO at h1 h2
      by_cases e : p = ops.size
      · rw [if_neg (fun e' => hpq (by rw [e, e']))] at h2
        obtain ⟨d, hd, _⟩ := h2
        have := (List.getElem?_eq_some_iff.1 hd).1; omega
      · rw [if_neg e] at h1
        obtain ⟨d, hd, _⟩ := h1
        have := (List.getElem?_eq_some_iff.1 hd).1; omega
end
end

/-! ### The moves of a walk: the checks are collected, and made once, at the end -/
structure Out where
  idx : Nat
  uses : List Nat
  eats : List Nat
  gs : Option (Nat × Tmp)
  deps : List Nat := []
def Out.sh (x : Out) : Shape := ⟨x.idx, x.uses, x.eats⟩
def gsChk (ops : Array Oper) : Option (Nat × Tmp) → Bool
  | none => true
  | some (g, t) => dstOf ops g == some t
def chkF (sh : List Shape) (uses : List Nat) : Bool := uses.all fun p => sh.all fun s => !s.eats.contains p
def chkAll (ops : Array Oper) : List Shape → List Out → Bool
  | _, [] => true
  | sh, x :: r => (bif Nat.beq x.idx ops.size then chkF sh x.uses else chk ops sh x.idx x.uses x.eats) && (gsChk ops x.gs && x.deps.all (maskOf ops x.idx)) && chkAll ops (sh ++ [x.sh]) r

/-- the guard of an operation: none, or a place that holds a truth value -/
def Want (o : Oper) (gs : Option (Nat × Tmp)) (a : Act) (x : Bool) : Prop :=
  match o.guard, gs with
  | none, none => x = true
  | some (g, want), some (g', t) => g = g' ∧ ∃ y, a.tmps[t]? = some (.bool y) ∧ x = (y == want)
  | _, _ => False
/-- a guard that was itself not asked: its place holds nothing that is true or false -/
def Unasked (o : Oper) (gs : Option (Nat × Tmp)) (a : Act) : Prop :=
  match o.guard, gs with
  | some (g, _), some (g', t) => g = g' ∧ a.tmps[t]? = some undef
  | _, _ => False
theorem want_of {ops : Array Oper} {o : Oper} {gs : Option (Nat × Tmp)} {a : Act} {x : Bool} (h : Want o gs a x) (hc : gsChk ops gs = true) : Region.wanted o (yielded ops a.tmps) = x := by
  unfold Want at h
  unfold Region.wanted
  cases hg : o.guard with
  | none =>
    rw [hg] at h
    cases gs with
    | none => exact h.symm
    | some p => exact h.elim
  | some p =>
    obtain ⟨g, want⟩ := p
    rw [hg] at h
    cases gs with
    | none => exact h.elim
    | some q =>
      obtain ⟨g', t⟩ := q
      obtain ⟨rfl, y, hy, rfl⟩ := h
      have hd : dstOf ops g = some t := by simpa [gsChk] using hc
      unfold dstOf at hd
      have hyd : yielded ops a.tmps g = some y := by
        unfold yielded
        rw [hd]
        simp only [Option.bind_some, hy]
      show (yielded ops a.tmps g == some want) = _
      rw [hyd]
      cases y <;> cases want <;> rfl
theorem unasked_of {ops : Array Oper} {o : Oper} {gs : Option (Nat × Tmp)} {a : Act} (h : Unasked o gs a) (hc : gsChk ops gs = true) : Region.wanted o (yielded ops a.tmps) = false := by
  unfold Unasked at h
  unfold Region.wanted
  cases hg : o.guard with
  | none =>
    rw [hg] at h
    exact h.elim
  | some p =>
    obtain ⟨g, want⟩ := p
    rw [hg] at h
    cases gs with
    | none => exact h.elim
    | some q =>
      obtain ⟨g', t⟩ := q
      obtain ⟨rfl, hy⟩ := h
      have hd : dstOf ops g = some t := by simpa [gsChk] using hc
      unfold dstOf at hd
      have hyd : yielded ops a.tmps g = none := by
        unfold yielded
        rw [hd]
        simp only [Option.bind_some, hy]
        rfl
      show (yielded ops a.tmps g == some want) = _
      rw [hyd]
      cases want <;> rfl

section
variable (P : Program) (QN : Act → World → Prop) (X0 : Nat → Prop) (w0 : World) (S : World → Prop)
inductive RK : List Oper → Nat → List Ent → (Vs → Act) → List Out → Prop
  | done {k : Nat} {Γ : List Ent} {b : Vs → Act} (live : List Nat)
      (h : ∀ vs w, Keeps X0 w0 w → S w → (∀ p ∈ live, Fof Γ p vs w) → QN (b vs) w) : RK [] k Γ b [⟨k, live, [], none, []⟩]
  | val {o : Oper} {rest : List Oper} {k : Nat} {Γ : List Ent} {b : Vs → Act} {out : List Out} (v : Value) (uses : List Nat) (gs : Option (Nat × Tmp))
      (h : ∀ vs w, Keeps X0 w0 w → S w → (∀ p ∈ uses, Fof Γ p vs w) → ∃ x, (Want o gs (b vs) x ∨ (x = false ∧ Unasked o gs (b vs))) ∧ ∀ K : Act → World → Prop, Shut (∀ w', Below w.heap.size w w' → K ((b vs).put o.dst v) w') →
        if x = true then o.wp P (b vs) w K (fun _ _ _ => False) else K ((b vs).put o.dst undef) w)
      (hr : RK rest (k + 1) Γ (fun vs => (b vs).put o.dst v) out) : RK (o :: rest) k Γ b (⟨k, uses, [], gs, []⟩ :: out)
  | op {o : Oper} {rest : List Oper} {k : Nat} {Γ : List Ent} {b : Vs → Act} {out : List Out} (F : Vs → World → Prop) (own : Vs → Nat → Prop) (uses eats deps : List Nat) (gs : Option (Nat × Tmp))
      (hd : ∀ vs vs' : Vs, (∀ i ∈ k :: deps, vs i = vs' i) → F vs = F vs' ∧ own vs = own vs')
      (hs : ∀ vs w w', F vs w → Sta (fun g => (g < w0.heap.size ∧ ¬ X0 g) ∨ own vs g) w w' → F vs w')
      (h : ∀ vs w, Keeps X0 w0 w → S w → (∀ p ∈ uses, Fof Γ p vs w) → ∃ x, Want o gs (b vs) x ∧ ∀ K : Act → World → Prop, Shut (∀ v w', (F (upd vs k v) w' ∧ Keeps (fun g => ∃ p ∈ eats, Oof Γ p vs g) w w' ∧ ∀ g, own (upd vs k v) g → g < w'.heap.size ∧ (w.heap.size ≤ g ∨ ∃ p ∈ eats, Oof Γ p vs g)) → K ((b vs).put o.dst v) w') →
        if x = true then o.wp P (b vs) w K (fun _ _ _ => False) else K ((b vs).put o.dst undef) w)
      (hr : RK rest (k + 1) (Γ ++ [⟨k, F, own⟩]) (fun vs => (b vs).put o.dst (vs k)) out) : RK (o :: rest) k Γ b (⟨k, uses, eats, gs, deps⟩ :: out)
end

theorem RK.rok {P : Program} {ops : Array Oper} {Q : Exit → Act → World → Prop} {QN : Act → World → Prop} {X0 : Nat → Prop} {w0 : World} {S : World → Prop} (hQ : ∀ a w, QN a w → Q .normal a w)
    {rest : List Oper} {k : Nat} {Γ : List Ent} {b : Vs → Act} {out : List Out} (h : RK P QN X0 w0 S rest k Γ b out) :
    ∀ (Δ : List Ent), (∀ p vs w, Fof (Δ ++ Γ) p vs w → Fof Γ p vs w) → (∀ p vs g, Oof Γ p vs g → Oof (Δ ++ Γ) p vs g) → (∀ e ∈ Δ, ops.size ≤ e.idx) → k + rest.length = ops.size → ∀ sh : List Shape, chkAll ops sh out = true → ROK P ops Q X0 w0 S rest k sh (Δ ++ Γ) b := by
  induction h with
  | @done k Γ b live h =>
    intro Δ hF hO _ hkn sh hc
    have hk : k = ops.size := hkn
    subst hk
    simp only [chkAll, Bool.and_eq_true, Nat.beq_refl, cond_true] at hc
    refine .done fun vs w hK hS hf => hQ _ _ (h vs w hK hS fun p hp => hF _ _ _ (hf p ?_))
    exact List.all_eq_true.1 hc.1.1 p hp
  | @val o rest k Γ b out v uses gs h hr ih =>
    intro Δ hF hO hΔ hkn sh hc
    have hkb : Nat.beq k ops.size = false := by
      cases hb : Nat.beq k ops.size
      · rfl
      · have := Nat.eq_of_beq_eq_true hb; rw [List.length_cons] at hkn; omega
    simp only [chkAll, Bool.and_eq_true, hkb, cond_false] at hc
    refine .val v uses hc.1.1 (fun vs w hK hS hf => ?_) (ih Δ hF hO hΔ (by rw [List.length_cons] at hkn; omega) _ hc.2)
    obtain ⟨x, hx, hw⟩ := h vs w hK hS (fun p hp => hF _ _ _ (hf p hp))
    intro K hKK
    have hx' : Region.wanted o (yielded ops (b vs).tmps) = x := by
      rcases hx with hx | ⟨rfl, hx⟩
      · exact want_of hx hc.1.2.1
      · exact unasked_of hx hc.1.2.1
    rw [hx']
    exact hw K (fun w' hu => hKK v w' ⟨rfl, Keeps.of_up hu⟩)
  | @op o rest k Γ b out F own uses eats deps gs hd hs h hr ih =>
    intro Δ hF hO hΔ hkn sh hc
    have hkb : Nat.beq k ops.size = false := by
      cases hb : Nat.beq k ops.size
      · rfl
      · have := Nat.eq_of_beq_eq_true hb; rw [List.length_cons] at hkn; omega
    simp only [chkAll, Bool.and_eq_true, hkb, cond_false] at hc
    have hlt : k < ops.size := by rw [List.length_cons] at hkn; omega
    have hne : ∀ e ∈ Δ, Nat.beq e.idx k = false := fun e he => by
      cases hb : Nat.beq e.idx k
      · rfl
      · have := Nat.eq_of_beq_eq_true hb; have := hΔ e he; omega
    have e1 : (Δ ++ Γ) ++ [(⟨k, F, own⟩ : Ent)] = Δ ++ (Γ ++ [⟨k, F, own⟩]) := List.append_assoc _ _ _
    have fofΔ : ∀ (Δ : List Ent), (∀ e ∈ Δ, Nat.beq e.idx k = false) → ∀ (Z : List Ent) (vs : Vs) (w : World), Fof (Δ ++ Z) k vs w ↔ Fof Z k vs w := by
      intro Δ hne Z vs w
      induction Δ with
      | nil => rfl
      | cons e r ih2 =>
        rw [List.cons_append, Fof, hne e List.mem_cons_self, cond_false]
        exact ih2 (fun e he => hne e (List.mem_cons_of_mem _ he))
    have hr' := ih Δ ?_ ?_ hΔ (by rw [List.length_cons] at hkn; omega) _ hc.2
    · refine .op F own uses eats hc.1.1 (fun vs vs' he => hd vs vs' fun i hi => he i ?_) (fun vs w w' hg hst => hs _ _ _ hg hst) ?_ (by rw [e1]; exact hr')
      · rcases List.mem_cons.1 hi with hi | hi
        · exact .inl hi
        · exact .inr (List.all_eq_true.1 hc.1.2.2 i hi)
      intro vs w hK hS hf K hKK
      obtain ⟨x, hx, hw⟩ := h vs w hK hS (fun p hp => hF _ _ _ (hf p hp))
      rw [want_of hx hc.1.2.1]
      exact hw K (fun v w' ⟨h1, h2, h3⟩ => hKK v w' ⟨h1, ⟨h2.os, h2.tape, h2.output, h2.size, fun g hgl hgn => h2.block g hgl (fun ⟨p, hp, hg⟩ => hgn ⟨p, hp, hO _ _ _ hg⟩)⟩, fun g hg =>
        ⟨(h3 g hg).1, (h3 g hg).2.imp id fun ⟨p, hp, hg⟩ => ⟨p, hp, hO _ _ _ hg⟩⟩⟩)
    · -- facts of the longer row
      have split : ∀ (Γ : List Ent) (p : Nat) (vs : Vs) (w : World) (e : Ent), Fof (Γ ++ [e]) p vs w ↔ (Fof Γ p vs w ∧ ((∀ x ∈ Γ, Nat.beq x.idx p = false) → Nat.beq e.idx p = true → e.F vs w)) := by
        intro Γ p vs w e
        induction Γ with
        | nil => simp only [List.nil_append, Fof]; cases Nat.beq e.idx p <;> simp
        | cons x r ih2 =>
          simp only [List.cons_append, Fof]
          cases hb : Nat.beq x.idx p
          · simp only [cond_false]; rw [ih2]; simp [hb]
          · simp only [cond_true]
            constructor
            · intro hx; exact ⟨hx, fun hall => by have := hall x List.mem_cons_self; rw [hb] at this; cases this⟩
            · exact fun hx => hx.1
      intro p vs w hf
      rw [← e1] at hf
      have h1 := (split (Δ ++ Γ) p vs w _).1 hf
      refine (split Γ p vs w _).2 ⟨hF p vs w h1.1, fun hall hb => ?_⟩
      refine h1.2 (fun x hx => ?_) hb
      rcases List.mem_append.1 hx with hx | hx
      · have hb' : k = p := Nat.eq_of_beq_eq_true hb
        rw [← hb']; exact hne x hx
      · exact hall x hx
    · have split : ∀ (Γ : List Ent) (p : Nat) (vs : Vs) (g : Nat) (e : Ent), Oof (Γ ++ [e]) p vs g ↔ (Oof Γ p vs g ∨ ((∀ x ∈ Γ, Nat.beq x.idx p = false) ∧ Nat.beq e.idx p = true ∧ e.own vs g)) := by
        intro Γ p vs g e
        induction Γ with
        | nil => simp only [List.nil_append, Oof]; cases Nat.beq e.idx p <;> simp
        | cons x r ih2 =>
          simp only [List.cons_append, Oof]
          cases hb : Nat.beq x.idx p
          · simp only [cond_false]; rw [ih2]; simp [hb]
          · simp only [cond_true]
            constructor
            · intro hx; exact .inl hx
            · rintro (hx | ⟨hall, _⟩)
              · exact hx
              · have := hall x List.mem_cons_self; rw [hb] at this; cases this
      intro p vs g hf
      rw [← e1]
      rcases (split Γ p vs g _).1 hf with h1 | ⟨h1, h2, h3⟩
      · exact (split (Δ ++ Γ) p vs g _).2 (.inl (hO p vs g h1))
      · refine (split (Δ ++ Γ) p vs g _).2 (.inr ⟨fun x hx => ?_, h2, h3⟩)
        rcases List.mem_append.1 hx with hx | hx
        · have hb' : k = p := Nat.eq_of_beq_eq_true h2
          rw [← hb']; exact hne x hx
        · exact h1 x hx

/-! ### What a walk types -/
def Fall (Γ : List Ent) : List Nat → Vs → World → Prop
  | [], _, _ => True
  | p :: r, vs, w => Fof Γ p vs w ∧ Fall Γ r vs w
theorem Fall.mk {Γ : List Ent} {vs : Vs} {w : World} : ∀ {l : List Nat}, (∀ p ∈ l, Fof Γ p vs w) → Fall Γ l vs w
  | [], _ => trivial
  | p :: r, h => ⟨h p List.mem_cons_self, Fall.mk fun q hq => h q (List.mem_cons_of_mem _ hq)⟩

/-- the block that a slice or a pointer leads to -/
def ob (v : Value) (g : Nat) : Prop := match v with
  | .slice (some a) _ _ => a.block = g
  | .pointer (some a) => a.block = g
  | _ => False

section
variable {P : Program} {QN : Act → World → Prop} {X0 : Nat → Prop} {w0 : World} {S : World → Prop} {o : Oper} {rest : List Oper} {k : Nat} {Γ : List Ent} {b : Vs → Act} {out : List Out}
/-- all have come up -/
theorem RK.fin (live : List Nat) (h : ∀ vs w, Keeps X0 w0 w → S w → Fall Γ live vs w → QN (b vs) w) : RK P QN X0 w0 S [] k Γ b [⟨k, live, [], none, []⟩] :=
  .done live fun vs w hK hS hf => h vs w hK hS (Fall.mk hf)
/-- an operation that yields v and leaves memory as it is -/
theorem RK.ok {v : Value} (h : ∀ vs w, S w → (execOp (b vs).eval o).run P w = .ok (.value v) w) (hg : o.guard = none) (hr : RK P QN X0 w0 S rest (k + 1) Γ (fun vs => (b vs).put o.dst v) out) : RK P QN X0 w0 S (o :: rest) k Γ b (⟨k, [], [], none, []⟩ :: out) :=
  .val v [] none (fun vs w _ hS _ => ⟨true, .inl (by simp only [Want, hg]), fun K hK => by
    rw [if_pos rfl, Oper.wp, h vs w hS]
    exact hK.out w (Below.refl _ _)⟩) hr
/-- the same, from what is known of those in 'uses' -/
theorem RK.okU (uses : List Nat) {v : Value} (h : ∀ vs w, S w → Fall Γ uses vs w → (execOp (b vs).eval o).run P w = .ok (.value v) w) (hg : o.guard = none) (hr : RK P QN X0 w0 S rest (k + 1) Γ (fun vs => (b vs).put o.dst v) out) : RK P QN X0 w0 S (o :: rest) k Γ b (⟨k, uses, [], none, []⟩ :: out) :=
  .val v uses none (fun vs w _ hS hf => ⟨true, .inl (by simp only [Want, hg]), fun K hK => by
    rw [if_pos rfl, Oper.wp, h vs w hS (Fall.mk hf)]
    exact hK.out w (Below.refl _ _)⟩) hr
/-- guarded, and asked -/
theorem RK.gok {g t : Nat} {x : Bool} {v : Value} (h : ∀ vs w, S w → (execOp (b vs).eval o).run P w = .ok (.value v) w) (hg : o.guard = some (g, x)) (ht : ∀ vs, (b vs).tmps[t]? = some (.bool x)) (hr : RK P QN X0 w0 S rest (k + 1) Γ (fun vs => (b vs).put o.dst v) out) : RK P QN X0 w0 S (o :: rest) k Γ b (⟨k, [], [], some (g, t), []⟩ :: out) :=
  .val v [] (some (g, t)) (fun vs w _ hS _ => ⟨true, .inl (by simp only [Want, hg]; exact ⟨trivial, x, ht vs, by cases x <;> rfl⟩), fun K hK => by
    rw [if_pos rfl, Oper.wp, h vs w hS]
    exact hK.out w (Below.refl _ _)⟩) hr
/-- guarded, and not asked -/
theorem RK.gno {g t : Nat} {x y : Bool} (hg : o.guard = some (g, x)) (ht : ∀ vs, (b vs).tmps[t]? = some (.bool y)) (hxy : (y == x) = false) (hr : RK P QN X0 w0 S rest (k + 1) Γ (fun vs => (b vs).put o.dst undef) out) : RK P QN X0 w0 S (o :: rest) k Γ b (⟨k, [], [], some (g, t), []⟩ :: out) :=
  .val undef [] (some (g, t)) (fun vs w _ hS _ => ⟨false, .inl (by simp only [Want, hg]; exact ⟨trivial, y, ht vs, hxy.symm⟩), fun K hK => by
    rw [if_neg (by simp)]
    exact hK.out w (Below.refl _ _)⟩) hr
/-- guarded by one that was not asked itself -/
theorem RK.gun {g t : Nat} {x : Bool} (hg : o.guard = some (g, x)) (ht : ∀ vs, (b vs).tmps[t]? = some undef) (hr : RK P QN X0 w0 S rest (k + 1) Γ (fun vs => (b vs).put o.dst undef) out) : RK P QN X0 w0 S (o :: rest) k Γ b (⟨k, [], [], some (g, t), []⟩ :: out) :=
  .val undef [] (some (g, t)) (fun vs w _ hS _ => ⟨false, .inr ⟨rfl, by simp only [Unasked, hg]; exact ⟨trivial, ht vs⟩⟩, fun K hK => by
    rw [if_neg (by simp)]
    exact hK.out w (Below.refl _ _)⟩) hr
/-- a call (or whatever makes memory and changes none) that yields v -/
theorem RK.call (v : Value) (uses : List Nat) (hg : o.guard = none)
    (h : ∀ vs w, Keeps X0 w0 w → S w → Fall Γ uses vs w → ∀ K : Act → World → Prop, Shut (∀ w', Below w.heap.size w w' → K ((b vs).put o.dst v) w') → o.wp P (b vs) w K (fun _ _ _ => False))
    (hr : RK P QN X0 w0 S rest (k + 1) Γ (fun vs => (b vs).put o.dst v) out) : RK P QN X0 w0 S (o :: rest) k Γ b (⟨k, uses, [], none, []⟩ :: out) :=
  .val v uses none (fun vs w hK hS hf => ⟨true, .inl (by simp only [Want, hg]), fun K hKK => by
    rw [if_pos rfl]
    exact h vs w hK hS (Fall.mk hf) K hKK⟩) hr
/-- the same, guarded and asked -/
theorem RK.gcall {g t : Nat} {x : Bool} (v : Value) (uses : List Nat) (hg : o.guard = some (g, x)) (ht : ∀ vs, (b vs).tmps[t]? = some (.bool x))
    (h : ∀ vs w, Keeps X0 w0 w → S w → Fall Γ uses vs w → ∀ K : Act → World → Prop, Shut (∀ w', Below w.heap.size w w' → K ((b vs).put o.dst v) w') → o.wp P (b vs) w K (fun _ _ _ => False))
    (hr : RK P QN X0 w0 S rest (k + 1) Γ (fun vs => (b vs).put o.dst v) out) : RK P QN X0 w0 S (o :: rest) k Γ b (⟨k, uses, [], some (g, t), []⟩ :: out) :=
  .val v uses (some (g, t)) (fun vs w hK hS hf => ⟨true, .inl (by simp only [Want, hg]; exact ⟨trivial, x, ht vs, by cases x <;> rfl⟩), fun K hKK => by
    rw [if_pos rfl]
    exact h vs w hK hS (Fall.mk hf) K hKK⟩) hr
/-- an operation whose value meets G behind it; it may own blocks -/
theorem RK.opn (G : Value → World → Prop) (own : Value → Nat → Prop) (uses eats : List Nat)
    (hs : ∀ v w w', G v w → Sta (fun g => (g < w0.heap.size ∧ ¬ X0 g) ∨ own v g) w w' → G v w') (hg : o.guard = none)
    (h : ∀ vs w, Keeps X0 w0 w → S w → Fall Γ uses vs w → ∀ K : Act → World → Prop, Shut (∀ v w', G v w' → Keeps (fun g => ∃ p ∈ eats, Oof Γ p vs g) w w' → (∀ g, own v g → g < w'.heap.size ∧ (w.heap.size ≤ g ∨ ∃ p ∈ eats, Oof Γ p vs g)) → K ((b vs).put o.dst v) w') → o.wp P (b vs) w K (fun _ _ _ => False))
    (hr : RK P QN X0 w0 S rest (k + 1) (Γ ++ [⟨k, fun vs => G (vs k), fun vs => own (vs k)⟩]) (fun vs => (b vs).put o.dst (vs k)) out) : RK P QN X0 w0 S (o :: rest) k Γ b (⟨k, uses, eats, none, []⟩ :: out) :=
  .op (fun vs => G (vs k)) (fun vs => own (vs k)) uses eats [] none (fun vs vs' he => by rw [he k List.mem_cons_self]; exact ⟨rfl, rfl⟩) (fun vs w w' hg hst => hs _ _ _ hg hst) (fun vs w hK hS hf => ⟨true, by simp only [Want, hg], fun K hKK => by
    rw [if_pos rfl]
    refine h vs w hK hS (Fall.mk hf) K (fun v w' h1 h2 h3 => hKK v w' ⟨?_, h2, fun g hg => h3 g ?_⟩)
    · show G (upd vs k v k) w'
      rw [upd_same]; exact h1
    · have hg' : own (upd vs k v k) g := hg
      rwa [upd_same] at hg'⟩) hr
/-- the same; what is known speaks of the values of those in 'deps' too -/
theorem RK.opD (F : Vs → World → Prop) (own : Vs → Nat → Prop) (uses eats deps : List Nat) (hd : ∀ vs vs' : Vs, (∀ i ∈ k :: deps, vs i = vs' i) → F vs = F vs' ∧ own vs = own vs')
    (hs : ∀ vs w w', F vs w → Sta (fun g => (g < w0.heap.size ∧ ¬ X0 g) ∨ own vs g) w w' → F vs w') (hg : o.guard = none)
    (h : ∀ vs w, Keeps X0 w0 w → S w → Fall Γ uses vs w → ∀ K : Act → World → Prop, Shut (∀ v w', F (upd vs k v) w' → Keeps (fun g => ∃ p ∈ eats, Oof Γ p vs g) w w' → (∀ g, own (upd vs k v) g → g < w'.heap.size ∧ (w.heap.size ≤ g ∨ ∃ p ∈ eats, Oof Γ p vs g)) → K ((b vs).put o.dst v) w') → o.wp P (b vs) w K (fun _ _ _ => False))
    (hr : RK P QN X0 w0 S rest (k + 1) (Γ ++ [⟨k, F, own⟩]) (fun vs => (b vs).put o.dst (vs k)) out) : RK P QN X0 w0 S (o :: rest) k Γ b (⟨k, uses, eats, none, deps⟩ :: out) :=
  .op F own uses eats deps none hd hs (fun vs w hK hS hf => ⟨true, by simp only [Want, hg], fun K hKK => by
    rw [if_pos rfl]
    exact h vs w hK hS (Fall.mk hf) K (fun v w' h1 h2 h3 => hKK v w' ⟨h1, h2, h3⟩)⟩) hr
end

section
variable {P : Program} {l : List Oper} {Q : Exit → Act → World → Prop} {a : Act} {w : World} {id : Nat} {out : List Out}
theorem region_up (S : World → Prop) (hm : P.follows .mixedOrders = true) (hg : globChk l.toArray = true) (hS : ∀ w1, Below w.heap.size w w1 → S w1)
    (h : ∀ QN : Act → World → Prop, Shut (∀ a w', Q .normal a w' → QN a w') → RK P QN (fun _ => False) w.drew S l 0 [] (fun _ => a) out) (hc : chkAll l.toArray [] out = true) : (Code.region id l.toArray true).wp P Q a w := by
  refine wp_region_inv S (fun _ => False) (fun _ => True) hm hg (fun g hg => hg.elim) trivial (fun _ _ _ _ => trivial) (fun w1 hK => hS w1 ?_) (show ROK P l.toArray Q (fun _ => False) w.drew S l 0 [] [G0 l.toArray (fun _ => False) (fun _ => True)] (fun _ => a) from ?_)
  · have := hK.up
    exact ⟨this.os, this.tape, this.output, this.size, this.block⟩
  · exact RK.rok (fun a w h => h) (h (fun a w' => Q .normal a w') (fun a w' h => h)) [G0 l.toArray (fun _ => False) (fun _ => True)]
      (fun p vs w h => by
        by_cases e : l.toArray.size = p
        · have h1 : Fof ([] : List Ent) p vs w := trivial
          exact h1
        · exact trivial)
      (fun p vs g h => (h : False).elim) (fun e he => by simp only [List.mem_singleton] at he; subst he; exact Nat.le_refl _) (by simp) [] hc
/-- X0: blocks that the region may write (rows of the call's own); F0: what is known of them at its beginning; number 'n' in 'uses' and 'eats' -/
theorem region_own (n : Nat) (S : World → Prop) (X0 : Nat → Prop) (F0 : World → Prop) (hn : l.length = n) (hm : P.follows .mixedOrders = true) (hg : globChk l.toArray = true) (hX : ∀ g, X0 g → g < w.heap.size) (hF : F0 w.drew)
    (hF0 : ∀ w1 w2, F0 w1 → Sta (fun g => (g < w.heap.size ∧ ¬ X0 g) ∨ X0 g) w1 w2 → F0 w2) (hS : ∀ w1, Keeps X0 w.drew w1 → S w1)
    (h : ∀ QN : Act → World → Prop, Shut (∀ a w', Q .normal a w' → QN a w') → RK P QN X0 w.drew S l 0 [⟨n, fun _ => F0, fun _ => X0⟩] (fun _ => a) out) (hc : chkAll l.toArray [] out = true) : (Code.region id l.toArray true).wp P Q a w := by
  subst hn
  refine wp_region_inv S X0 F0 hm hg hX hF hF0 hS (show ROK P l.toArray Q X0 w.drew S l 0 [] [⟨l.length, fun _ => F0, fun _ => X0⟩] (fun _ => a) from ?_)
  exact RK.rok (Δ := []) (fun a w h => h) (h (fun a w' => Q .normal a w') (fun a w' h => h)) (fun p vs w h => h) (fun p vs g h => h) (fun e he => by cases he) (by simp) [] hc
end
end Go.Proofs.YtfmjgkfblejknaaGreat.Rg

/-
  Words for drawn regions: texts, slices of bytes that an operation leaves. No function of the program is named here.
-/
namespace Go.Proofs.YtfmjgkfblejknaaGreat
open Go.RowKit
set_option linter.unusedVariables false

/-- a text -/
def tx (l : List UInt8) : ByteArray := ⟨l.toArray⟩
theorem tx_list (l : List UInt8) : (tx l).data.toList = l := by simp [tx]
theorem tx_size (l : List UInt8) : (tx l).size = l.length := by simp [tx, ByteArray.size]
theorem tx_of {s : ByteArray} {l : List UInt8} (h : s.data.toList = l) : s = tx l := by
  subst h; rfl
theorem tx_inj {a b : List UInt8} (h : tx a = tx b) : a = b := by rw [← tx_list a, h, tx_list]
/-- one list behind the other, shut to the walk -/
def cc (a b : List UInt8) : List UInt8 := a ++ b
theorem cc_length (a b : List UInt8) : (cc a b).length = a.length + b.length := by simp [cc]
theorem tx_append (a b : List UInt8) : tx a ++ tx b = tx (cc a b) := tx_of (by simp [ByteArray.data_append, tx_list, cc])
theorem tx_append' (a b : List UInt8) : tx a ++ tx b = tx (a ++ b) := tx_append a b

section
variable {w w' : World} {Y : Nat → Prop}
theorem sta_cell (h : Rg.Sta Y w w') {g o : Nat} (hl : g < w.heap.size) (hy : Y g) : w'.cell? ⟨g, o, none⟩ = w.cell? ⟨g, o, none⟩ := World.cell?_of_block (h.block g hl hy)
theorem sta_some (h : Rg.Sta Y w w') {g o : Nat} {u : Value} (hu : w.cell? ⟨g, o, none⟩ = some u) (hy : Y g) : w'.cell? ⟨g, o, none⟩ = some u :=
  (sta_cell h (World.block_lt_of_cell? w ⟨g, o, none⟩ hu) hy).trans hu
theorem keeps_up {w w' : World} (h : Rg.Keeps (fun _ => False) w.drew w') : Up w w' := by
  have := h.up; exact ⟨this.os, this.tape, this.output, this.size, this.block⟩
end

/-- the value is a slice of new memory that holds these cells -/
def Sl (sz : Nat) (xs : List Value) (v : Value) (W : World) : Prop := ∃ A n c, v = .slice A n c ∧ n ≤ c ∧ Rd W W.heap.size sz A n xs
theorem Sl.sta {sz : Nat} {xs : List Value} {v : Value} {w w' : World} {Y : Nat → Prop} (h : Sl sz xs v w) (hs : Rg.Sta (fun g => Y g ∨ Rg.ob v g) w w') : Sl sz xs v w' := by
  obtain ⟨A, n, c, rfl, hnc, hr⟩ := h
  refine ⟨A, n, c, rfl, hnc, hr.1, fun hn => ?_⟩
  obtain ⟨b, o, rfl, hb, hc⟩ := hr.2 hn
  exact ⟨b, o, rfl, Nat.lt_of_lt_of_le hb hs.size, fun j u hu => sta_some hs (hc j u hu) (.inr rfl)⟩
/-- a new block's own: what 'own' asks -/
theorem own_new {w w' : World} {E : Nat → Prop} {b o n c : Nat} (hb : w.heap.size ≤ b) (hl : b < w'.heap.size) : ∀ g, Rg.ob (.slice (some ⟨b, o, none⟩) n c) g → g < w'.heap.size ∧ (w.heap.size ≤ g ∨ E g) := by
  rintro g rfl; exact ⟨hl, .inl hb⟩
/-- a row of the call's own, made since w -/
theorem own_row {w w' : World} {E : Nat → Prop} {e : TypeId} {sz n : Nat} {v : Value} {xs : List Value} (h : w'.ownsRow w.heap.size e sz v n xs) : ∀ g, Rg.ob v g → g < w'.heap.size ∧ (w.heap.size ≤ g ∨ E g) := by
  rcases h.2 with ⟨rfl, _⟩ | ⟨g', cap, cur, rfl, hg, hh, _⟩
  · intro g hg; exact hg.elim
  · rintro g rfl; exact ⟨(Array.getElem?_eq_some_iff.1 hh).1, .inl hg⟩
theorem Sl.own {w : World} {base : Nat} {e : TypeId} {sz n : Nat} {v : Value} {xs : List Value} (h : w.ownsRow base e sz v n xs) : Sl sz xs v w := by
  obtain ⟨A, c, rfl, hr⟩ := Rd.from_ownsRow h
  exact ⟨A, n, c, rfl, own_cap h, hr⟩

theorem row_sta {w w' : World} {base : Nat} {e : TypeId} {sz n : Nat} {v : Value} {xs : List Value} {Y : Nat → Prop} (h : w.ownsRow base e sz v n xs) (hs : Rg.Sta (fun g => Y g ∨ Rg.ob v g) w w') : w'.ownsRow base e sz v n xs := by
  refine ⟨h.1, ?_⟩
  rcases h.2 with h2 | ⟨g, cap, cur, rfl, hg, hh, r⟩
  · exact .inl h2
  · exact .inr ⟨g, cap, cur, rfl, hg, (hs.block g (Array.getElem?_eq_some_iff.1 hh).1 (.inr rfl)).trans hh, r⟩
theorem ob_of {base : Nat} {w : World} {e : TypeId} {sz n : Nat} {v : Value} {xs : List Value} (h : w.ownsRow base e sz v n xs) {g : Nat} : v.ownBlock = some g ↔ Rg.ob v g := by
  rcases h.2 with ⟨rfl, _⟩ | ⟨g', cap, cur, rfl, _⟩
  · simp [Value.ownBlock, Rg.ob]
  · simp [Value.ownBlock, Rg.ob]
theorem keeps_grown {w w' : World} {base : Nat} {e : TypeId} {sz n : Nat} {v : Value} {xs : List Value} (h : w.ownsRow base e sz v n xs) (hg : w.grownBy w' v.ownBlock) {X : Nat → Prop} (hX : ∀ g, Rg.ob v g → X g) : Rg.Keeps X w w' :=
  ⟨hg.os, hg.tape, hg.output, hg.size, fun k hk hx => hg.block k hk (fun e => hx (hX k ((ob_of h).1 e.symm)))⟩
theorem own_grown {w w' : World} {base n' : Nat} {e : TypeId} {sz n : Nat} {v v' : Value} {xs xs' : List Value} (h : w.ownsRow base e sz v n xs) (h' : w'.ownsRow base e sz v' n' xs') (hat : v'.ownBlock = v.ownBlock ∨ v'.ownBlock = some w.heap.size) {X : Nat → Prop} (hX : ∀ g, Rg.ob v g → X g) :
    ∀ g, Rg.ob v' g → g < w'.heap.size ∧ (w.heap.size ≤ g ∨ X g) := by
  intro g hg
  have hb := (ob_of h').2 hg
  refine ⟨?_, ?_⟩
  · rcases h'.2 with ⟨rfl, _⟩ | ⟨g', cap, cur, rfl, _, hh, _⟩
    · exact hg.elim
    · have : g' = g := hg
      subst this
      exact (Array.getElem?_eq_some_iff.1 hh).1
  · rcases hat with hat | hat
    · rw [hat] at hb; exact .inr (hX g ((ob_of h).1 hb))
    · rw [hat] at hb; injection hb with hb; exact .inl (Nat.le_of_eq hb)
/-- a new block that is a row of the call's own, full -/
theorem row_new (w : World) (cs : Array Value) (t : TypeId) {base sz n : Nat} (hb : base ≤ w.heap.size) (hn : cs.size = n * sz) (hm : n ≤ 9223372036854775807) : (w.alloc (.cells cs t)).ownsRow base t sz (.slice (some ⟨w.heap.size, 0, none⟩) n n) n cs.toList :=
  ⟨by simpa using hn, .inr ⟨w.heap.size, n, cs, rfl, hb, heap_alloc_new w _, Nat.le_refl _, by simpa only [maxLen] using hm, hn, by rw [← hn]; exact List.take_of_length_le (by simp)⟩⟩

theorem exec_str {a : Act} {o : Oper} {x : Operand} {A : Option Addr} {n c B : Nat} {l : List UInt8} {w : World} (ho : o.op = .convert 22 9 x) (hx : a.eval x = .slice A n c) (hr : Rd w B 1 A n (bvs l)) : (execOp a.eval o).run Tryz.prog w = .ok (.value (.string (tx l))) w := by
  have := run_str c hr
  unfold execOp
  simp only [ho, hx]
  rw [Sem.run_bind, this]
  rfl
theorem blk_cell {w : World} {g : Nat} {cs : Array Value} {t : TypeId} (h : w.heap[g]? = some (.cells cs t (0, 0))) (j : Nat) : w.cell? ⟨g, j, none⟩ = cs[j]? := cell_of_row w g j cs t (0, 0) h
theorem blk_free {w : World} {g : Nat} {cs : Array Value} {t : TypeId} (h : w.heap[g]? = some (.cells cs t (0, 0))) (j : Nat) : w.frozen? ⟨g, j, none⟩ = false := by simp [World.frozen?, h]

theorem tx_toList (l : List UInt8) : (tx l).toList = l := by rw [ByteArray.toList_eq, tx_list]
theorem tx_beq {a b : List UInt8} (h : a = b) : ((tx a).toList == (tx b).toList) = true := by rw [h]; simp
theorem tx_bne {a b : List UInt8} (h : a ≠ b) : ((tx a).toList == (tx b).toList) = false := by rw [tx_toList, tx_toList]; simpa using h

theorem setc_heap (w : World) (g j : Nat) (u : Value) (cs : Array Value) (t : TypeId) (h : w.heap[g]? = some (.cells cs t (0, 0))) : (w.setCell ⟨g, j, none⟩ u).heap[g]? = some (.cells (cs.setIfInBounds j u) t (0, 0)) := by
  simp [World.setCell, Array.getElem?_modify, h]
theorem setc_keeps (w w' : World) (g j : Nat) (u : Value) (h : Rg.Keeps (fun x => x = g) w w') : Rg.Keeps (fun x => x = g) w (w'.setCell ⟨g, j, none⟩ u) :=
  ⟨h.os, h.tape, h.output, by simpa [World.setCell] using h.size, fun k hk hne => by
    rw [← h.block k hk hne]
    simp only [World.setCell, Array.getElem?_modify]
    rw [if_neg (fun e => hne e.symm)]⟩
/-- five cells stored one by one -/
theorem set5 (w : World) (g : Nat) (a0 a1 a2 a3 a4 v0 v1 v2 v3 v4 : Value) (t : TypeId) (h : w.heap[g]? = some (.cells #[a0, a1, a2, a3, a4] t (0, 0))) :
    (((((w.setCell ⟨g, 0, none⟩ v0).setCell ⟨g, 1, none⟩ v1).setCell ⟨g, 2, none⟩ v2).setCell ⟨g, 3, none⟩ v3).setCell ⟨g, 4, none⟩ v4).heap[g]? = some (.cells #[v0, v1, v2, v3, v4] t (0, 0)) ∧
    Rg.Keeps (fun x => x = g) w (((((w.setCell ⟨g, 0, none⟩ v0).setCell ⟨g, 1, none⟩ v1).setCell ⟨g, 2, none⟩ v2).setCell ⟨g, 3, none⟩ v3).setCell ⟨g, 4, none⟩ v4) := by
  refine ⟨?_, setc_keeps _ _ _ _ _ (setc_keeps _ _ _ _ _ (setc_keeps _ _ _ _ _ (setc_keeps _ _ _ _ _ (setc_keeps _ _ _ _ _ (Rg.Keeps.refl _ _)))))⟩
  have h1 := setc_heap _ g 4 v4 _ _ (setc_heap _ g 3 v3 _ _ (setc_heap _ g 2 v2 _ _ (setc_heap _ g 1 v1 _ _ (setc_heap w g 0 v0 _ _ h))))
  exact h1
theorem Keeps.weak {X Y : Nat → Prop} {w w' : World} (h : Rg.Keeps X w w') (hxy : ∀ g, X g → Y g) : Rg.Keeps Y w w' := ⟨h.os, h.tape, h.output, h.size, fun k hk hn => h.block k hk fun hx => hn (hxy k hx)⟩

/-- two bytes of a literal, as a text -/
theorem two_str (x y : Int) (W : World) (g : Nat) (h0 : W.cell? ⟨g, 0, none⟩ = some (.int .u8 (IntKind.u8.wrap x))) (h1 : W.cell? ⟨g, 1, none⟩ = some (.int .u8 (IntKind.u8.wrap y))) : (convert 22 9 (.slice (some ⟨g, 0, none⟩) 2 2)).run Tryz.prog W = .ok (.string (tx [byteOf x, byteOf y])) W := by
  refine run_str (B := g + 1) 2 ⟨by simp [bvs], fun _ => ⟨g, 0, rfl, by omega, fun j u hj => ?_⟩⟩
  match j with
  | 0 => simp [bvs] at hj; rw [← hj, bv_byteOf, Nat.zero_add, h0, IntKind.wrap_u8]
  | 1 => simp [bvs] at hj; rw [← hj, bv_byteOf, Nat.zero_add, h1, IntKind.wrap_u8]
  | j + 2 => simp [bvs] at hj
end Go.Proofs.YtfmjgkfblejknaaGreat

/-
  The walks of item.Rises, block.may, of the document's Rises and BlockMay.
-/
namespace Go.Proofs.YtfmjgkfblejknaaGreat
open Go.RowKit
set_option linter.unusedVariables false
set_option linter.unusedSimpArgs false

theorem retb {a b : Bool} (h : a = b) : Ending.returned (.bool a) = .returned (.bool b) := by rw [h]
theorem blk_up {w w' : World} {g : Nat} {o : Obj} (hu : Up w w') (h : w.heap[g]? = some o) : w'.heap[g]? = some o := (hu.block _ (Array.getElem?_eq_some_iff.1 h).1).trans h
def risesB (l : List It) : Bool := (List.range (l.length - 1)).all fun j => lessB (l.getD j noIt) (l.getD (j + 1) noIt)
theorem risesB_yes {l : List It} (h : ∀ j, j + 1 < l.length → lessB (l.getD j noIt) (l.getD (j + 1) noIt) = true) : risesB l = true := by
  unfold risesB
  rw [List.all_eq_true]
  intro j hj
  exact h j (by have := List.mem_range.1 hj; omega)
theorem risesB_no {l : List It} {j : Nat} (hj : j + 1 < l.length) (h : lessB (l.getD j noIt) (l.getD (j + 1) noIt) = false) : risesB l = false := by
  unfold risesB
  rw [List.all_eq_false]
  exact ⟨j, List.mem_range.2 (by omega), by rw [h]; simp⟩
def mayL (l : List It) : Bool := decide (0 < l.length) && risesB l && l.all okB
theorem getD_it {l : List It} {k : Nat} {i : It} (h : l[k]? = some i) : l.getD k noIt = i := by rw [List.getD, h]; rfl
set_option maxRecDepth 100000 in
set_option maxHeartbeats 1600000 in
theorem rises_any (A : Option Addr) (n c : Nat) (l : List It) (w : World) (hr : Rd w w.heap.size 5 A n (itcs l)) (hn : n ≤ 1099511627776) :
    Calls Tryz.prog 36 #[.slice A n c] w fun e w' => e = .returned (.bool (risesB l)) ∧ Up w w' := by
  have HL := Lib.hid hr.ilen
  go_enter Tryz.func36, Tryz.ntmps36
  go_wp2_with fail
  go_loopw [3] (fun i wr => ∃ k : Nat, i = .int .i64 ((k + 1 : Nat) : Int) ∧ k ≤ n ∧ Hid (∀ j, j < k → j + 1 < l.length → lessB (l.getD j noIt) (l.getD (j + 1) noIt) = true) ∧ Up w wr) (fun i _ => n + 1 - (intOf i).toNat)
  case atStart => exact ⟨0, rfl, by omega, fun j hj => absurd hj (Nat.not_lt_zero _), Up.refl _⟩
  case round =>
    obtain ⟨k, rfl, hk, hall, hu⟩ := hrel
    by_cases hlt : k + 1 < n
    · obtain ⟨b, o, x, rfl, hb, hx, c0, c1, c2, c3, c4⟩ := (hr.up hu).item_at (show k < n by omega)
      obtain ⟨b', o', y, hbo, hb', hy, d0, d1, d2, d3, d4⟩ := (hr.up hu).item_at hlt
      injection hbo with hbo
      injection hbo with e1 e2
      subst e1; subst e2
      have hxD := getD_it hx
      have hyD := getD_it hy
      have HX := Lib.hid hxD
      have HY := Lib.hid hyD
      have hki : ((k : Int) + 1) < (n : Int) := by omega
      have hki2 : (k : Int) < (n : Int) := by omega
      have hkn : k < n := by omega
      have z1 : IntKind.i64.wrap ((k : Int) + 1 - 1) = (k : Int) := by rw [IntWalk.i64_in _ (by omega)]; omega
      have z2 : IntKind.i64.wrap (k : Int) = (k : Int) := IntWalk.i64_in _ (by omega)
      have z3 : ((k : Int) + 1).toNat = k + 1 := by omega
      have z4 : (0 : Int) ≤ (k : Int) + 1 := by omega
      have hS : ∀ W, Up wr W → Up wr W ∧ (W.cell? ⟨b, o + k * 5, none⟩ = some (.int .i64 x.s.toInt) ∧ W.cell? ⟨b, o + k * 5 + 1, none⟩ = some (.int .i64 x.k.toInt) ∧ W.cell? ⟨b, o + k * 5 + 2, none⟩ = some (.int .u64 (x.t.toNat : Int)) ∧ W.cell? ⟨b, o + k * 5 + 3, none⟩ = some (.int .u64 (x.v.toNat : Int)) ∧ W.cell? ⟨b, o + k * 5 + 4, none⟩ = some (.int .i64 x.x.toInt)) ∧
          (W.cell? ⟨b, o + (k + 1) * 5, none⟩ = some (.int .i64 y.s.toInt) ∧ W.cell? ⟨b, o + (k + 1) * 5 + 1, none⟩ = some (.int .i64 y.k.toInt) ∧ W.cell? ⟨b, o + (k + 1) * 5 + 2, none⟩ = some (.int .u64 (y.t.toNat : Int)) ∧ W.cell? ⟨b, o + (k + 1) * 5 + 3, none⟩ = some (.int .u64 (y.v.toNat : Int)) ∧ W.cell? ⟨b, o + (k + 1) * 5 + 4, none⟩ = some (.int .i64 y.x.toInt)) := fun W h =>
        ⟨h, ⟨(h.cell (p := ⟨b, o + k * 5, none⟩) hb).trans c0, (h.cell (p := ⟨b, o + k * 5 + 1, none⟩) hb).trans c1, (h.cell (p := ⟨b, o + k * 5 + 2, none⟩) hb).trans c2, (h.cell (p := ⟨b, o + k * 5 + 3, none⟩) hb).trans c3, (h.cell (p := ⟨b, o + k * 5 + 4, none⟩) hb).trans c4⟩,
          (h.cell (p := ⟨b, o + (k + 1) * 5, none⟩) hb).trans d0, (h.cell (p := ⟨b, o + (k + 1) * 5 + 1, none⟩) hb).trans d1, (h.cell (p := ⟨b, o + (k + 1) * 5 + 2, none⟩) hb).trans d2, (h.cell (p := ⟨b, o + (k + 1) * 5 + 3, none⟩) hb).trans d3, (h.cell (p := ⟨b, o + (k + 1) * 5 + 4, none⟩) hb).trans d4⟩
      clear hx hy hxD hyD c0 c1 c2 c3 c4 d0 d1 d2 d3 d4
      obtain ⟨lb, hlb⟩ : ∃ q, q = lessB x y := ⟨_, rfl⟩
      have hcL := fun W => less_any x y W
      rw [← hlb] at hcL
      have HLB := Lib.hid hlb
      clear hlb
      go_wp2_with fail
      apply Rg.region_up _ (by kernel_rfl) (by kernel_rfl) hS
      · intro QN hQN
        iterate 9 (apply Rg.RK.ok; (· intro vs w1 hS; go_simp; with_reducible rfl); (· rfl); simp only [Act.put, List.setIfInBounds_toArray, List.set_cons_zero, List.set_cons_succ, Nat.reduceAdd])
        apply Rg.RK.call (.bool lb) []
        · rfl
        · intro vs w1 hK hS _ K hKK
          go_simp
          refine (hcL w1).mono ?_
          rintro e w2 ⟨rfl, hu2⟩
          exact hKK.out _ hu2
        simp only [Act.put, List.setIfInBounds_toArray, List.set_cons_zero, List.set_cons_succ, Nat.reduceAdd]
        iterate 1 (apply Rg.RK.ok; (· intro vs w1 hS; go_simp; with_reducible rfl); (· rfl); simp only [Act.put, List.setIfInBounds_toArray, List.set_cons_zero, List.set_cons_succ, Nat.reduceAdd])
        apply Rg.RK.fin []
        intro vs w1 hK hS _
        refine hQN.out _ _ ?_
        clear hQN
        have hu2 := hu.trans (keeps_up hK)
        clear hS hK
        cases lb
        · go_wp2_with fail
          go_ret
          refine ⟨retb ?_, hu2⟩
          rw [risesB_no (j := k) (by have := HL.out; omega) (by rw [HX.out, HY.out]; exact HLB.out.symm)]
        · go_wp2_with fail
          go_roundw
          case rel =>
            refine ⟨k + 1, by go_num, by omega, ?_, hu2⟩
            intro j hj hjl
            by_cases hjk : j = k
            · subst hjk; rw [HX.out, HY.out]; exact HLB.out.symm
            · exact hall.out j (by omega) hjl
          case measure => simp [intOf]; omega
      · kernel_rfl
    · have hki : ¬ ((k : Int) + 1) < (n : Int) := by omega
      go_wp2_with fail
      go_ret
      refine ⟨retb ?_, hu⟩
      rw [risesB_yes (fun j hj => hall.out j (by have := HL.out; omega) hj)]
set_option maxRecDepth 100000 in
set_option maxHeartbeats 800000 in
theorem may1_any (i : It) (w : World) :
    Calls Tryz.prog 88 #[.agg #[.int .i64 i.s.toInt, .int .i64 i.k.toInt, .int .u64 (i.t.toNat : Int), .int .u64 (i.v.toNat : Int), .int .i64 i.x.toInt]] w fun e w' => e = .returned (.bool (!okB i)) ∧ Up w w' := by
  go_enter Tryz.func88, Tryz.ntmps88
  go_wp2_with fail
  refine (ok_any i _).mono ?_
  rintro e w1 ⟨rfl, hu⟩
  go_wp2_with fail
  go_ret
  exact ⟨rfl, ((Up.refl w).alloc _).trans hu⟩
set_option maxRecDepth 100000 in
set_option maxHeartbeats 800000 in
theorem mindexf_any (A : Option Addr) (n c : Nat) (l : List It) (w : World) (hr : Rd w w.heap.size 5 A n (itcs l)) (hn : n ≤ 9223372036854775807) :
    Calls Tryz.prog 66 #[.slice A n c, .func (.func 88) #[] #[]] w fun e w' => ∃ z : Int, e = .returned (.int .i64 z) ∧ Hid (l.all okB = decide (z < 0)) ∧ Up w w' := by
  have HL := Lib.hid hr.ilen
  go_enter Tryz.func66, Tryz.ntmps66
  go_wp2_with fail
  go_loopw [8] (fun i wr => ∃ k : Nat, i = .int .i64 (k : Int) ∧ k ≤ n ∧ Hid ((l.take k).all okB = true) ∧ Up w wr) (fun i _ => n - (intOf i).toNat)
  case atStart => exact ⟨0, rfl, by omega, rfl, Up.refl _⟩
  case round =>
    obtain ⟨k, rfl, hk, hall, hu⟩ := hrel
    by_cases hlt : k < n
    · obtain ⟨b, o, i, rfl, hb, hik, c0, c1, c2, c3, c4⟩ := (hr.stay (Nat.le_refl _) hu).item_at hlt
      have HI := Lib.hid hik
      clear hik
      go_wp2_with fail
      refine (may1_any i wr).mono ?_
      rintro e w2 ⟨rfl, hu2⟩
      have hkl : k < l.length := by have := HL.out; omega
      have htk : l.take (k + 1) = l.take k ++ [i] := by
        rw [List.take_succ_eq_append_getElem hkl]
        have := HI.out
        rw [List.getElem?_eq_getElem hkl] at this
        injection this with this
        rw [this]
      have HT := Lib.hid htk
      clear htk c0 c1 c2 c3 c4
      cases hok : okB i
      · have hf : Hid (l.all okB = decide ((k : Int) < 0)) := by
          show _ = _
          have : okB l[k] = false := by
            have h := HI.out
            rw [List.getElem?_eq_getElem hkl] at h
            injection h with h
            rw [h]; exact hok
          have h2 : l.all okB = false := by
            rw [List.all_eq_false]
            exact ⟨l[k], List.getElem_mem _, by rw [this]; simp⟩
          rw [h2]; simp
        clear hok
        go_wp2_with fail
        go_ret
        exact ⟨k, rfl, hf, hu.trans hu2⟩
      · have HO := Lib.hid hok
        clear hok
        go_wp2_with fail
        go_roundw
        case rel =>
          refine ⟨k + 1, by go_num, by omega, ?_, hu.trans hu2⟩
          show _ = _
          rw [HT.out, List.all_append, hall.out]
          simp [HO.out]
        case measure => simp [intOf]; omega
    · go_wp2_with fail
      go_ret
      refine ⟨-1, rfl, ?_, hu⟩
      show _ = _
      have hk' : k = l.length := by have := HL.out; omega
      have h := hall.out
      rw [hk', List.take_of_length_le (Nat.le_refl _)] at h
      rw [h]; rfl

end Go.Proofs.YtfmjgkfblejknaaGreat

/-
  The walks of block.may, of the document's Rises and BlockMay.
-/
namespace Go.Proofs.YtfmjgkfblejknaaGreat
open Go.RowKit
set_option linter.unusedVariables false
set_option linter.unusedSimpArgs false

set_option maxRecDepth 100000 in
set_option maxHeartbeats 1600000 in
theorem bmay_any (A : Option Addr) (n c : Nat) (l : List It) (w : World) (hr : Rd w w.heap.size 5 A n (itcs l)) (hn : n ≤ 1099511627776) :
    Calls Tryz.prog 64 #[.slice A n c] w fun e w' => e = .returned (.bool (mayL l)) ∧ Up w w' := by
  have hl : n = l.length := hr.ilen
  have hv : mayL l = (decide (0 < n) && risesB l && l.all okB) := by rw [hl]; rfl
  have HV := Lib.hid hv
  clear hv hl
  obtain ⟨rb, hrb⟩ : ∃ q, q = risesB l := ⟨_, rfl⟩
  have H0 := Lib.hid (rises_any A n c l w hr hn)
  rw [← hrb] at HV H0
  clear hrb
  by_cases h0 : 0 < n
  · have h0i : (0 : Int) < (n : Int) := by omega
    go_enter Tryz.func64, Tryz.ntmps64
    go_wp2_with fail
    refine H0.out.mono ?_
    rintro e w1 ⟨rfl, hu1⟩
    cases rb
    · go_wp2_with fail
      go_ret
      refine ⟨retb ?_, hu1⟩
      rw [HV.out]; simp
    · have h1 := mindexf_any A n c l w1 (hr.up hu1) (by omega)
      have H1 := Lib.hid h1
      clear h1
      obtain ⟨r, hrr⟩ : ∃ q, q = l.all okB := ⟨_, rfl⟩
      rw [← hrr] at HV H1
      clear hrr
      have h2 : Calls Tryz.prog 37 #[.slice A n c, .func (.func 88) #[] #[]] w1 fun e w' => e = .returned (.bool (!r)) ∧ Up w1 w' := by
        go_enter Tryz.func37, Tryz.ntmps37
        go_wp2_with fail
        refine H1.out.mono ?_
        rintro e w2 ⟨z, rfl, hz, hu⟩
        go_wp2_with fail
        go_ret
        refine ⟨ret_bool ?_, hu⟩
        rw [hz.out]
        by_cases h : z < 0
        · simp [h]
        · simp [h]; omega
      have H2 := Lib.hid h2
      clear h2 H1
      go_wp2_with fail
      refine H2.out.mono ?_
      rintro e w2 ⟨rfl, hu2⟩
      go_wp2_with fail
      go_ret
      refine ⟨retb ?_, hu1.trans hu2⟩
      rw [HV.out, decide_eq_true h0]
      cases r <;> rfl
  · have h0i : ¬ (0 : Int) < (n : Int) := by omega
    go_enter Tryz.func64, Tryz.ntmps64
    go_wp2_with fail
    go_ret
    refine ⟨retb ?_, Up.refl _⟩
    rw [HV.out, decide_eq_false h0]; rfl
set_option maxRecDepth 100000 in
set_option maxHeartbeats 3200000 in
theorem rrises_any (A : Option Addr) (n c : Nat) (l : List It) (w : World) (hr : Rd w w.heap.size 5 A n (itcs l)) (hn : n ≤ 1099511627776) :
    Calls Tryz.prog 47 #[.slice A n c] w fun e w' => e = .returned (.bool (risesB l && l.all okB)) ∧ Up w w' := by
  have HL := Lib.hid hr.ilen
  go_enter Tryz.func47, Tryz.ntmps47
  go_wp2_with fail
  go_loopw [3] (fun i wr => ∃ k : Nat, i = .int .i64 (k : Int) ∧ k ≤ n ∧ Hid ((∀ j (hj : j < k) (hl : j < l.length), okB l[j] = true) ∧ ∀ j, j + 1 < k → j + 1 < l.length → lessB (l.getD j noIt) (l.getD (j + 1) noIt) = true) ∧ Up w wr) (fun i _ => n - (intOf i).toNat)
  case atStart => exact ⟨0, rfl, by omega, ⟨fun j hj => absurd hj (Nat.not_lt_zero _), fun j hj => absurd hj (Nat.not_lt_zero _)⟩, Up.refl _⟩
  case round =>
    obtain ⟨k, rfl, hk, hall, hu⟩ := hrel
    by_cases hlt : k < n
    · have hkl : k < l.length := by have := HL.out; omega
      obtain ⟨b, o, x, rfl, hb, hx, c0, c1, c2, c3, c4⟩ := (hr.up hu).item_at hlt
      have hxD := getD_it hx
      have hxG : l[k] = x := by rw [List.getElem?_eq_getElem hkl] at hx; injection hx
      have HX := Lib.hid hxD
      have HG := Lib.hid hxG
      have hki : (k : Int) < (n : Int) := by omega
      obtain ⟨ob, hob⟩ : ∃ q, q = okB x := ⟨_, rfl⟩
      have hcO := fun W => rok_any x W
      rw [← hob] at hcO
      have HOB := Lib.hid hob
      clear hob hx hxD hxG
      have hS1 : ∀ W, Up wr W → Up wr W ∧ (W.cell? ⟨b, o + k * 5, none⟩ = some (.int .i64 x.s.toInt) ∧ W.cell? ⟨b, o + k * 5 + 1, none⟩ = some (.int .i64 x.k.toInt) ∧ W.cell? ⟨b, o + k * 5 + 2, none⟩ = some (.int .u64 (x.t.toNat : Int)) ∧ W.cell? ⟨b, o + k * 5 + 3, none⟩ = some (.int .u64 (x.v.toNat : Int)) ∧ W.cell? ⟨b, o + k * 5 + 4, none⟩ = some (.int .i64 x.x.toInt)) := fun W h =>
        ⟨h, (h.cell (p := ⟨b, o + k * 5, none⟩) hb).trans c0, (h.cell (p := ⟨b, o + k * 5 + 1, none⟩) hb).trans c1, (h.cell (p := ⟨b, o + k * 5 + 2, none⟩) hb).trans c2, (h.cell (p := ⟨b, o + k * 5 + 3, none⟩) hb).trans c3, (h.cell (p := ⟨b, o + k * 5 + 4, none⟩) hb).trans c4⟩
      clear c0 c1 c2 c3 c4
      cases ob
      · go_wp2_with fail
        apply Rg.region_up _ (by kernel_rfl) (by kernel_rfl) hS1
        · intro QN hQN
          iterate 4 (apply Rg.RK.ok; (· intro vs w1 hS; go_simp; with_reducible rfl); (· rfl); simp only [Act.put, List.setIfInBounds_toArray, List.set_cons_zero, List.set_cons_succ, Nat.reduceAdd])
          apply Rg.RK.call (.bool false) []
          · rfl
          · intro vs w1 hK hS _ K hKK
            go_simp
            refine (hcO w1).mono ?_
            rintro e w2 ⟨rfl, hu2⟩
            exact hKK.out _ hu2
          simp only [Act.put, List.setIfInBounds_toArray, List.set_cons_zero, List.set_cons_succ, Nat.reduceAdd]
          iterate 2 (apply Rg.RK.ok; (· intro vs w1 hS; go_simp; with_reducible rfl); (· rfl); simp only [Act.put, List.setIfInBounds_toArray, List.set_cons_zero, List.set_cons_succ, Nat.reduceAdd])
          iterate 3 (apply Rg.RK.gno (t := 16) (y := true); (· rfl); (· intro vs; rfl); (· rfl); simp only [Act.put, List.setIfInBounds_toArray, List.set_cons_zero, List.set_cons_succ, Nat.reduceAdd])
          iterate 11 (apply Rg.RK.gun (t := 19); (· rfl); (· intro vs; rfl); simp only [Act.put, List.setIfInBounds_toArray, List.set_cons_zero, List.set_cons_succ, Nat.reduceAdd])
          iterate 1 (apply Rg.RK.gno (t := 16) (y := true); (· rfl); (· intro vs; rfl); (· rfl); simp only [Act.put, List.setIfInBounds_toArray, List.set_cons_zero, List.set_cons_succ, Nat.reduceAdd])
          iterate 1 (apply Rg.RK.ok; (· intro vs w1 hS; go_simp; with_reducible rfl); (· rfl); simp only [Act.put, List.setIfInBounds_toArray, List.set_cons_zero, List.set_cons_succ, Nat.reduceAdd])
          apply Rg.RK.fin []
          intro vs w1 hK hS _
          refine hQN.out _ _ ?_
          clear hQN
          have hu2 := hu.trans (keeps_up hK)
          clear hS hK
          go_wp2_with fail
          go_ret
          refine ⟨retb ?_, hu2⟩
          have h2 : l.all okB = false := by
            rw [List.all_eq_false]
            exact ⟨l[k], List.getElem_mem _, by rw [HG.out, ← HOB.out]; simp⟩
          rw [h2, Bool.and_false]
        · kernel_rfl
      · rcases Nat.eq_zero_or_pos k with hk0 | hk0
        · subst hk0
          rw [show ((0 : Nat) : Int) = (0 : Int) from rfl] at hki ⊢
          simp only [Nat.zero_mul, Nat.add_zero] at hS1
          go_wp2_with fail
          apply Rg.region_up _ (by kernel_rfl) (by kernel_rfl) hS1
          · intro QN hQN
            iterate 4 (apply Rg.RK.ok; (· intro vs w1 hS; go_simp; with_reducible rfl); (· rfl); simp only [Act.put, List.setIfInBounds_toArray, List.set_cons_zero, List.set_cons_succ, Nat.reduceAdd])
            apply Rg.RK.call (.bool true) []
            · rfl
            · intro vs w1 hK hS _ K hKK
              go_simp
              refine (hcO w1).mono ?_
              rintro e w2 ⟨rfl, hu2⟩
              exact hKK.out _ hu2
            simp only [Act.put, List.setIfInBounds_toArray, List.set_cons_zero, List.set_cons_succ, Nat.reduceAdd]
            iterate 2 (apply Rg.RK.ok; (· intro vs w1 hS; go_simp; with_reducible rfl); (· rfl); simp only [Act.put, List.setIfInBounds_toArray, List.set_cons_zero, List.set_cons_succ, Nat.reduceAdd])
            iterate 3 (apply Rg.RK.gok (t := 16); (· intro vs w1 hS; go_simp; with_reducible rfl); (· rfl); (· intro vs; rfl); simp only [Act.put, List.setIfInBounds_toArray, List.set_cons_zero, List.set_cons_succ, Nat.reduceAdd])
            iterate 11 (apply Rg.RK.gno (t := 19) (y := false); (· rfl); (· intro vs; rfl); (· rfl); simp only [Act.put, List.setIfInBounds_toArray, List.set_cons_zero, List.set_cons_succ, Nat.reduceAdd])
            iterate 1 (apply Rg.RK.gok (t := 16); (· intro vs w1 hS; go_simp; with_reducible rfl); (· rfl); (· intro vs; rfl); simp only [Act.put, List.setIfInBounds_toArray, List.set_cons_zero, List.set_cons_succ, Nat.reduceAdd])
            iterate 1 (apply Rg.RK.ok; (· intro vs w1 hS; go_simp; with_reducible rfl); (· rfl); simp only [Act.put, List.setIfInBounds_toArray, List.set_cons_zero, List.set_cons_succ, Nat.reduceAdd])
            apply Rg.RK.fin []
            intro vs w1 hK hS _
            refine hQN.out _ _ ?_
            clear hQN
            have hu2 := hu.trans (keeps_up hK)
            clear hS hK
            go_wp2_with fail
            go_roundw
            case rel =>
              refine ⟨1, by go_num, by omega, ⟨fun j hj hl => ?_, fun j hj => absurd hj (by omega)⟩, hu2⟩
              have hj0 : j = 0 := by omega
              subst hj0
              rw [HG.out]; exact HOB.out.symm
            case measure => simp [intOf]; omega
          · kernel_rfl
        · obtain ⟨m, rfl⟩ : ∃ m, k = m + 1 := ⟨k - 1, by omega⟩
          obtain ⟨b', o', y, hbo, hb', hy, d0, d1, d2, d3, d4⟩ := (hr.up hu).item_at (show m < n by omega)
          injection hbo with hbo
          injection hbo with e1 e2
          subst e1; subst e2
          have HY := Lib.hid (getD_it hy)
          obtain ⟨lb, hlb⟩ : ∃ q, q = lessB y x := ⟨_, rfl⟩
          have hcL := fun W => rless_any y x W
          rw [← hlb] at hcL
          have HLB := Lib.hid hlb
          have hmi : (m : Int) < (n : Int) := by omega
          have hmn : m < n := by omega
          have hki2 : (m : Int) + 1 < (n : Int) := by omega
          have z1 : IntKind.i64.wrap ((m : Int) + 1 - 1) = (m : Int) := by rw [IntWalk.i64_in _ (by omega)]; omega
          have z2 : IntKind.i64.wrap (m : Int) = (m : Int) := IntWalk.i64_in _ (by omega)
          have z3 : ((m : Int) + 1).toNat = m + 1 := by omega
          have z4 : (0 : Int) ≤ (m : Int) + 1 := by omega
          have z5 : (0 : Int) < (m : Int) + 1 := by omega
          have hS2 : ∀ W, Up wr W → (Up wr W ∧ (W.cell? ⟨b, o + (m + 1) * 5, none⟩ = some (.int .i64 x.s.toInt) ∧ W.cell? ⟨b, o + (m + 1) * 5 + 1, none⟩ = some (.int .i64 x.k.toInt) ∧ W.cell? ⟨b, o + (m + 1) * 5 + 2, none⟩ = some (.int .u64 (x.t.toNat : Int)) ∧ W.cell? ⟨b, o + (m + 1) * 5 + 3, none⟩ = some (.int .u64 (x.v.toNat : Int)) ∧ W.cell? ⟨b, o + (m + 1) * 5 + 4, none⟩ = some (.int .i64 x.x.toInt))) ∧
              (W.cell? ⟨b, o + m * 5, none⟩ = some (.int .i64 y.s.toInt) ∧ W.cell? ⟨b, o + m * 5 + 1, none⟩ = some (.int .i64 y.k.toInt) ∧ W.cell? ⟨b, o + m * 5 + 2, none⟩ = some (.int .u64 (y.t.toNat : Int)) ∧ W.cell? ⟨b, o + m * 5 + 3, none⟩ = some (.int .u64 (y.v.toNat : Int)) ∧ W.cell? ⟨b, o + m * 5 + 4, none⟩ = some (.int .i64 y.x.toInt)) := fun W h =>
            ⟨hS1 W h, (h.cell (p := ⟨b, o + m * 5, none⟩) hb).trans d0, (h.cell (p := ⟨b, o + m * 5 + 1, none⟩) hb).trans d1, (h.cell (p := ⟨b, o + m * 5 + 2, none⟩) hb).trans d2, (h.cell (p := ⟨b, o + m * 5 + 3, none⟩) hb).trans d3, (h.cell (p := ⟨b, o + m * 5 + 4, none⟩) hb).trans d4⟩
          clear hS1 hlb hy d0 d1 d2 d3 d4
          go_wp2_with fail
          apply Rg.region_up _ (by kernel_rfl) (by kernel_rfl) hS2
          · intro QN hQN
            iterate 4 (apply Rg.RK.ok; (· intro vs w1 hS; go_simp; with_reducible rfl); (· rfl); simp only [Act.put, List.setIfInBounds_toArray, List.set_cons_zero, List.set_cons_succ, Nat.reduceAdd])
            apply Rg.RK.call (.bool true) []
            · rfl
            · intro vs w1 hK hS _ K hKK
              go_simp
              refine (hcO w1).mono ?_
              rintro e w2 ⟨rfl, hu2⟩
              exact hKK.out _ hu2
            simp only [Act.put, List.setIfInBounds_toArray, List.set_cons_zero, List.set_cons_succ, Nat.reduceAdd]
            iterate 2 (apply Rg.RK.ok; (· intro vs w1 hS; go_simp; with_reducible rfl); (· rfl); simp only [Act.put, List.setIfInBounds_toArray, List.set_cons_zero, List.set_cons_succ, Nat.reduceAdd])
            iterate 3 (apply Rg.RK.gok (t := 16); (· intro vs w1 hS; go_simp; with_reducible rfl); (· rfl); (· intro vs; rfl); simp only [Act.put, List.setIfInBounds_toArray, List.set_cons_zero, List.set_cons_succ, Nat.reduceAdd])
            iterate 9 (apply Rg.RK.gok (t := 19); (· intro vs w1 hS; go_simp; with_reducible rfl); (· rfl); (· intro vs; rfl); simp only [Act.put, List.setIfInBounds_toArray, List.set_cons_zero, List.set_cons_succ, Nat.reduceAdd])
            apply Rg.RK.gcall (t := 19) (.bool lb) []
            · rfl
            · intro vs; rfl
            · intro vs w1 hK hS _ K hKK
              go_simp
              refine (hcL w1).mono ?_
              rintro e w2 ⟨rfl, hu2⟩
              exact hKK.out _ hu2
            simp only [Act.put, List.setIfInBounds_toArray, List.set_cons_zero, List.set_cons_succ, Nat.reduceAdd]
            iterate 1 (apply Rg.RK.gok (t := 19); (· intro vs w1 hS; go_simp; with_reducible rfl); (· rfl); (· intro vs; rfl); simp only [Act.put, List.setIfInBounds_toArray, List.set_cons_zero, List.set_cons_succ, Nat.reduceAdd])
            iterate 1 (apply Rg.RK.gok (t := 16); (· intro vs w1 hS; go_simp; with_reducible rfl); (· rfl); (· intro vs; rfl); simp only [Act.put, List.setIfInBounds_toArray, List.set_cons_zero, List.set_cons_succ, Nat.reduceAdd])
            iterate 1 (apply Rg.RK.ok; (· intro vs w1 hS; go_simp; with_reducible rfl); (· rfl); simp only [Act.put, List.setIfInBounds_toArray, List.set_cons_zero, List.set_cons_succ, Nat.reduceAdd])
            apply Rg.RK.fin []
            intro vs w1 hK hS _
            refine hQN.out _ _ ?_
            clear hQN
            have hu2 := hu.trans (keeps_up hK)
            clear hS hK
            cases lb
            · go_wp2_with fail
              go_ret
              refine ⟨retb ?_, hu2⟩
              rw [risesB_no (j := m) hkl (by rw [HY.out, HX.out]; exact HLB.out.symm), Bool.false_and]
            · go_wp2_with fail
              go_roundw
              case rel =>
                refine ⟨m + 1 + 1, by go_num, by omega, ⟨fun j hj hl => ?_, fun j hj hjl => ?_⟩, hu2⟩
                · by_cases hjk : j = m + 1
                  · subst hjk; rw [HG.out]; exact HOB.out.symm
                  · exact hall.out.1 j (by omega) hl
                · by_cases hjk : j = m
                  · subst hjk; rw [HY.out, HX.out]; exact HLB.out.symm
                  · exact hall.out.2 j (by omega) hjl
              case measure => simp [intOf]; omega
          · kernel_rfl
    · have hki : ¬ (k : Int) < (n : Int) := by omega
      go_wp2_with fail
      go_ret
      refine ⟨retb ?_, hu⟩
      have hkl : k = l.length := by have := HL.out; omega
      have h2 : l.all okB = true := by
        rw [List.all_eq_true]
        intro x hx
        obtain ⟨j, hj, rfl⟩ := List.getElem_of_mem hx
        exact hall.out.1 j (by omega) hj
      rw [risesB_yes (fun j hj => hall.out.2 j (by omega) hj), h2]; rfl
def bErr (l : List It) : Nat := if 100 < l.length then 2 else if mayL l then 0 else 1
end Go.Proofs.YtfmjgkfblejknaaGreat

/-
  The walk of item.Read.
-/
namespace Go.Proofs.YtfmjgkfblejknaaGreat
open Go.RowKit
set_option linter.unusedVariables false

/-- k items, one behind the other -/
def itsL : Nat → List It → List UInt8 → Nat × List It × List UInt8
  | 0, acc, l => (0, acc, l)
  | k + 1, acc, l => if (oneL l).1 = 0 then itsL k (acc ++ [(oneL l).2.1]) (oneL l).2.2 else ((oneL l).1, [], [])
/-- what Read tells: the error, the items -/
def readL (l : List UInt8) : Nat × List It :=
  if (takeL l).2.2 ≠ 0 then ((takeL l).2.2, [])
  else if 2000 < (takeL l).1 then (2, [])
  else if (itsL (takeL l).1 [] (l.drop (takeL l).2.1)).1 ≠ 0 then ((itsL (takeL l).1 [] (l.drop (takeL l).2.1)).1, [])
  else if (itsL (takeL l).1 [] (l.drop (takeL l).2.1)).2.2.length = 0 ∧ (itsL (takeL l).1 [] (l.drop (takeL l).2.1)).2.1.all okB = true then (0, (itsL (takeL l).1 [] (l.drop (takeL l).2.1)).2.1)
  else (3, [])

theorem itemsT : SlT Tryz.prog 23 37 5 40 := SlT.mk' Tryz.underlying23 (z := .agg #[.int .i64 0, .int .i64 0, .int .u64 0, .int .u64 0, .int .i64 0]) (by kernel_rfl) rfl (by decide)
/-- the slice is a row of the call's own that holds these items -/
def OwnI (w : World) (base : Nat) (A : Option Addr) (n c : Nat) (l : List It) : Prop := w.ownsRow base 37 5 (.slice A n c) n (itcs l)
section
variable {w w' : World} {base n c : Nat} {A : Option Addr} {l : List It}
theorem OwnI.rd (h : OwnI w base A n c l) : Rd w w.heap.size 5 A n (itcs l) := Rd.own h
theorem OwnI.len (h : OwnI w base A n c l) : n = l.length := h.rd.ilen
theorem OwnI.up (h : OwnI w base A n c l) (hu : Up w w') : OwnI w' base A n c l := own_up h hu
end

set_option maxRecDepth 100000 in
set_option maxHeartbeats 3200000 in
theorem read_any (A : Option Addr) (n c : Nat) (l : List UInt8) (w : World) (hr : Rd w w.heap.size 1 A n (bvs l)) (hn : n ≤ 9223372036854775807) (hc : n ≤ c) :
    Calls Tryz.prog 63 #[.slice A n c] w fun e w' => ∃ A' n' c', e = .returned (.tuple #[.slice A' n' c', .int .i64 ((readL l).1 : Int)]) ∧ OwnI w' w.heap.size A' n' c' (readL l).2 ∧ Up w w' := by
  have CUT := cut_from_b
  have nil0 : ∀ w0, OwnI w0 w.heap.size none 0 0 [] := fun w0 => World.ownsRow_nil _ _ _ _
  have NIL := Lib.hid nil0
  clear nil0
  have HL := Lib.hid hr.blen
  by_cases he : (takeL l).2.2 = 0
  · have hok := takeL_ok he
    by_cases hbig : 2000 < (takeL l).1
    · have hv : readL l = (2, []) := by unfold readL; rw [if_neg (by simpa using he), if_pos hbig]
      have HV := Lib.hid hv
      clear hv
      go_enter Tryz.func63, Tryz.ntmps63
      go_wp2_with fail
      refine (take_any A n c l w hr hn).mono ?_
      rintro e w1 ⟨rfl, rfl⟩
      rw [he]
      generalize (takeL l).1 = tn at *
      generalize (takeL l).2.1 = ts at *
      clear he
      go_wp2_with fail
      go_ret2
      rw [HV.out]
      exact ⟨none, 0, 0, rfl, NIL.out _, Up.refl _⟩
    · have hv : readL l = if (itsL (takeL l).1 [] (l.drop (takeL l).2.1)).1 ≠ 0 then ((itsL (takeL l).1 [] (l.drop (takeL l).2.1)).1, [])
          else if (itsL (takeL l).1 [] (l.drop (takeL l).2.1)).2.2.length = 0 ∧ (itsL (takeL l).1 [] (l.drop (takeL l).2.1)).2.1.all okB = true then (0, (itsL (takeL l).1 [] (l.drop (takeL l).2.1)).2.1) else (3, []) := by
        conv => lhs; unfold readL
        rw [if_neg (by simpa using he), if_neg hbig]
      have HV := Lib.hid hv
      clear hv
      have hd := hr.bfrom (k := (takeL l).2.1) (cap := c) (by have := HL.out; omega) hc
      have htl : (takeL l).2.1 ≤ n := by have := HL.out; omega
      go_enter Tryz.func63, Tryz.ntmps63
      go_wp2_with fail
      refine (take_any A n c l w hr hn).mono ?_
      rintro e w1 ⟨rfl, rfl⟩
      rw [he]
      generalize (takeL l).1 = tn at *
      generalize (takeL l).2.1 = ts at *
      generalize l.drop ts = l2 at *
      clear he
      obtain ⟨h1, h2', h3, h4⟩ := hok
      have t1 : (0 : Int) ≤ ts := by omega
      have t2 : (ts : Int) ≤ n := by omega
      go_wp2_with fail
      go_loopw [0, 7, 28] (fun q v i wr => ∃ (k : Nat) (A' : Option Addr) (n' c' : Nat) (r : List UInt8) (R : Option Addr) (m d : Nat) (acc : List It), i = .int .u64 (k : Int) ∧ q = .slice A' n' c' ∧ v = .slice R m d ∧ k ≤ tn ∧ Rd wr w.heap.size 1 A' n' (bvs r) ∧ n' ≤ c' ∧ n' ≤ n ∧ m = k ∧
          OwnI wr w.heap.size R m d acc ∧ Hid (itsL (tn - k) acc r = itsL tn [] l2) ∧ Up w wr) (fun _ _ i _ => tn - (intOf i).toNat)
      case atStart => exact ⟨0, _, _, _, l2, none, 0, 0, [], rfl, rfl, rfl, by omega, hd, by omega, by omega, rfl, NIL.out _, rfl, Up.refl _⟩
      case round =>
        obtain ⟨k, A', n', c', r, R, m, d, acc, rfl, rfl, rfl, hk, hrr, hnc, hnn, hmk, hown, HT, hu⟩ := hrel
        clear hd hr
        by_cases hlt : k < tn
        · go_wp2_with fail
          refine (one_any A' n' c' r wr w.heap.size hu.size hrr (by omega) hnc).mono ?_
          rintro e w1 ⟨A2, n2, c2, rfl, hr2, hnc2, hnn2, hu2⟩
          by_cases h1e : (oneL r).1 = 0
          · have hst : itsL tn [] l2 = itsL (tn - (k + 1)) (acc ++ [(oneL r).2.1]) (oneL r).2.2 := by
              rw [← HT.out, show tn - k = (tn - (k + 1)) + 1 by omega]
              conv => lhs; unfold itsL
              rw [if_pos h1e]
            have HST := Lib.hid hst
            rw [h1e]
            clear hst h1e HT
            generalize (oneL r).2.1 = it at *
            generalize (oneL r).2.2 = r2 at *
            have hag : Value.agg (itc it).toArray = .agg #[.int .i64 it.s.toInt, .int .i64 it.k.toInt, .int .u64 (it.t.toNat : Int), .int .u64 (it.v.toNat : Int), .int .i64 it.x.toInt] := rfl
            rw [hag]
            clear hag
            have hown1 := hown.up hu2
            subst hmk
            have hm2 : m ≤ 2000 := by omega
            go_wp2_with (at_builtin; refine wpList_append_rd _ itemsT (news := itcs [it]) (World.ownsRow.alloc (World.ownsRow.alloc hown1 _) _) (Rd.ilit_at _ [it] _ _ (by simp) rfl) (itcs_one _) (by simp; omega) (by simp; omega) (by simp; have := hu.size; have := hu2.size; omega) rfl rfl rfl rfl ?_; intro v3 w3 hown3 hg3 hat3; obtain ⟨R3, d3, rfl⟩ := own_form hown3)
            have hu3 : Up w w3 := (((hu.trans hu2).alloc _).alloc _).grown hg3 (fun g hg => (hown1.lt g hg).1)
            go_roundw
            case rel =>
              refine ⟨m + 1, A2, n2, c2, r2, R3, m + 1, d3, acc ++ [it], by go_num, rfl, rfl, by omega, ?_, hnc2, by omega, rfl, ?_, HST.out.symm, hu3⟩
              · have hz1 : w.heap.size ≤ w1.heap.size := Nat.le_trans hu.size hu2.size
                exact hr2.below ((((Below.refl w.heap.size w1).alloc hz1 _).alloc (by simp; omega) _).grown hg3 (by simp; omega) (fun g hg => (hown1.lt g hg).1))
              · show World.ownsRow _ _ _ _ _ _ _
                rw [itcs_append]; exact hown3
            case measure => simp [intOf]; omega
          · have hst : itsL tn [] l2 = ((oneL r).1, [], []) := by
              rw [← HT.out, show tn - k = (tn - (k + 1)) + 1 by omega]
              unfold itsL
              rw [if_neg h1e]
            have hv : readL l = ((oneL r).1, []) := by rw [HV.out, hst, if_pos h1e]
            have HR := Lib.hid hv
            clear hst hv HT
            generalize (oneL r).1 = te at *
            have h0 : ¬ (te : Int) = 0 := by omega
            generalize (oneL r).2.1 = it at *
            have hag : Value.agg (itc it).toArray = .agg #[.int .i64 it.s.toInt, .int .i64 it.k.toInt, .int .u64 (it.t.toNat : Int), .int .u64 (it.v.toNat : Int), .int .i64 it.x.toInt] := rfl
            rw [hag]
            clear hag h1e
            go_wp2_with fail
            go_ret2
            rw [HR.out]
            exact ⟨none, 0, 0, rfl, NIL.out _, (hu.trans hu2).alloc _⟩
        · subst hmk
          have hkt : m = tn := by omega
          subst hkt
          have hT : itsL m [] l2 = (0, acc, r) := by rw [← HT.out, Nat.sub_self]; rfl
          have hv := HV.out
          rw [hT, if_neg (by simp)] at hv
          have hrl := hrr.blen
          by_cases hr0 : n' = 0
          · subst hr0
            have hr0' : r.length = 0 := hrl.symm
            cases hall : acc.all okB
            · rw [if_neg (by simp [hall])] at hv
              have HR := Lib.hid hv
              have HA := Lib.hid hall
              clear hv hall hT HT hr0' hrl
              go_wp2_with fail
              refine (all_any R m d acc wr hown.rd (by omega)).mono ?_
              rintro e w1 ⟨rfl, hu2⟩
              rw [HA.out]
              go_wp2_with fail
              go_ret2
              rw [HR.out]
              exact ⟨none, 0, 0, rfl, NIL.out _, hu.trans hu2⟩
            · rw [if_pos ⟨hr0', hall⟩] at hv
              have HR := Lib.hid hv
              have HA := Lib.hid hall
              clear hv hall hT HT hr0' hrl
              go_wp2_with fail
              refine (all_any R m d acc wr hown.rd (by omega)).mono ?_
              rintro e w1 ⟨rfl, hu2⟩
              rw [HA.out]
              go_wp2_with fail
              go_ret2
              rw [HR.out]
              exact ⟨R, m, d, rfl, hown.up hu2, hu.trans hu2⟩
          · rw [if_neg (fun h => hr0 (by rw [hrl]; exact h.1))] at hv
            have HR := Lib.hid hv
            clear hv hT HT hrl
            have h0 : (0 : Int) < n' := by omega
            go_wp2_with fail
            go_ret2
            rw [HR.out]
            exact ⟨none, 0, 0, rfl, NIL.out _, hu⟩
  · have hv : readL l = ((takeL l).2.2, []) := by unfold readL; rw [if_pos he]
    have HV := Lib.hid hv
    clear hv
    go_enter Tryz.func63, Tryz.ntmps63
    go_wp2_with fail
    refine (take_any A n c l w hr hn).mono ?_
    rintro e w1 ⟨rfl, rfl⟩
    generalize (takeL l).2.2 = te at *
    have h0 : ¬ (te : Int) = 0 := by omega
    go_wp2_with fail
    go_ret2
    rw [HV.out]
    exact ⟨none, 0, 0, rfl, NIL.out _, Up.refl _⟩
end Go.Proofs.YtfmjgkfblejknaaGreat

/-
  The walks of the document's answers for numbers: Take, Uneight, Sign.
-/
namespace Go.Proofs.YtfmjgkfblejknaaGreat
open Go.RowKit
set_option linter.unusedVariables false

/-- a text's byte, as a list's -/
theorem getD_str {s : ByteArray} {l : List UInt8} (hs : s.data.toList = l) {k : Nat} (hk : k < s.size) : s[k] = l.getD k 0 := by
  subst hs
  have h : k < s.data.size := hk
  show s.data[k] = _
  simp only [List.getD, Array.getElem?_toList, Array.getElem?_eq_getElem h, Option.getD_some]
theorem size_str {s : ByteArray} {l : List UInt8} (hs : s.data.toList = l) : s.size = l.length := by subst hs; rfl



set_option maxRecDepth 100000 in
theorem rsign_any (n : Int) (w : World) (h1 : -9223372036854775808 ≤ n) (h2 : n ≤ 9223372036854775807) :
    Calls Tryz.prog 57 #[.int .i64 n] w fun e w' => e = .returned (.int .u64 (signN n : Int)) ∧ w = w' := by
  unfold signN
  by_cases hn : n < 0
  · rw [if_pos hn]
    go_enter Tryz.func57, Tryz.ntmps57
    go_wp2
    go_ret
    refine ⟨?_, rfl⟩
    show Ending.returned (.int .u64 (-(n + 1) * 2 + 1)) = _
    congr 2; omega
  · rw [if_neg hn]
    go_enter Tryz.func57, Tryz.ntmps57
    go_wp2
    go_ret
    refine ⟨?_, rfl⟩
    show Ending.returned (.int .u64 (n * 2)) = Ending.returned (.int .u64 (max n 0 * 2))
    congr 2; omega

end Go.Proofs.YtfmjgkfblejknaaGreat

/-
  The walks of the document's answers for numbers: Num, Eight.
-/
namespace Go.Proofs.YtfmjgkfblejknaaGreat
open Go.RowKit
set_option linter.unusedVariables false

set_option maxRecDepth 100000 in
set_option maxHeartbeats 800000 in
theorem rnum_any (x : Nat) (w : World) (hx : (x : Int) ≤ 18446744073709551615) :
    Calls Tryz.prog 23 #[.int .u64 (x : Int)] w fun e w' => ∃ s : ByteArray, e = .returned (.string s) ∧ Hid (s.data.toList = numB x) ∧ Up w w' := by
  go_enter Tryz.func23, Tryz.ntmps23
  go_wp2
  go_loopw [0, 3] (fun q v wr => ∃ (m : Nat) (pre : List UInt8), q = .int .u64 (m : Int) ∧ (m : Int) ≤ 18446744073709551615 ∧ wr.ownsRow w.heap.size 5 1 v pre.length (bvs pre) ∧ Hid (pre ++ numB m = numB x) ∧ Up w wr)
    (fun q _ _ => (intOf q).toNat)
  case atStart => exact ⟨x, [], rfl, hx, World.ownsRow_nil _ _ _ _, rfl, Up.refl _⟩
  case round =>
    obtain ⟨m, pre, rfl, hm, hown, hp, hu⟩ := hrel
    have hbd : pre.length ≤ 10 := by
      have := congrArg List.length hp.out
      have h2 := numB_ten (n := x) (by omega)
      rw [List.length_append] at this; omega
    by_cases hlt : m < 128
    · have hb : Value.int .u8 (m : Int) = bv (UInt8.ofNat m) := by rw [bv_ofNat]; congr 1; omega
      have HB := Lib.hid hb; clear hb
      go_wp2_with (at_builtin; refine wpList_append_rd _ bytesT (news := bvs [UInt8.ofNat m]) (hown.alloc _) (Rd.boxb _ _ HB.out) (bvs_one _) (by omega) (by omega) (by simp; have := hu.size; omega) rfl rfl rfl rfl ?_; intro v2 w2 hown2 hg2 hat2; obtain ⟨A2, c2, rfl⟩ := own_form hown2; have hcv := run_str (l := pre ++ [UInt8.ofNat m]) c2 (by rw [bvs_append]; exact Rd.own hown2))
      go_ret
      refine ⟨_, rfl, ?_, hu.alloc _ |>.grown hg2 (fun k hk => (hown.lt k hk).1)⟩
      show _ = _
      rw [← hp.out, numB_lo hlt]
    · have HB := Lib.hid (put_byte m)
      go_wp2_with (at_builtin; refine wpList_append_rd _ bytesT (news := bvs [UInt8.ofNat (m % 128 + 128)]) (hown.alloc _) (Rd.boxb _ _ HB.out) (bvs_one _) (by omega) (by omega) (by simp; have := hu.size; omega) rfl rfl rfl rfl ?_; intro v2 w2 hown2 hg2 hat2)
      go_roundw
      case rel =>
        refine ⟨m / 128, pre ++ [UInt8.ofNat (m % 128 + 128)], by go_num, by omega, ?_, ?_, hu.alloc _ |>.grown hg2 (fun k hk => (hown.lt k hk).1)⟩
        · rw [bvs_append, List.length_append]; exact hown2
        · show _ = _; rw [← hp.out, numB_hi hlt]; simp
      case measure => simp [intOf]; omega

set_option maxRecDepth 100000 in
set_option maxHeartbeats 800000 in
theorem reight_any (x : Nat) (w : World) (hx : (x : Int) ≤ 18446744073709551615) :
    Calls Tryz.prog 59 #[.int .u64 (x : Int)] w fun e w' => ∃ s : ByteArray, e = .returned (.string s) ∧ Hid (s.data.toList = eightB x) ∧ Up w w' := by
  have MK := make_b
  go_enter Tryz.func59, Tryz.ntmps59
  go_wp2
  have ho0 := zb_own w (n := 8) (Nat.le_refl _) (by omega)
  go_loopw [4] (fun i wr => ∃ (k : Nat), i = .int .i64 (k : Int) ∧ k ≤ 8 ∧ OwnB wr w.heap.size (some ⟨w.heap.size, 0, none⟩) 8 8 ((eightB x).take k ++ List.replicate (8 - k) 0) ∧ Up w wr)
    (fun i _ => 8 - (intOf i).toNat)
  case atStart => exact ⟨0, rfl, by omega, ho0, (Up.refl _).alloc _⟩
  case round =>
    obtain ⟨k, rfl, hk, hown, hu⟩ := hrel
    clear ho0
    by_cases hlt : k < 8
    · have hel := eightB_len x
      have hcell := hown.cellAt k (by omega)
      have hfz := hown.frozenAt k
      have hst := hown.stored k (bv (UInt8.ofNat (x / 2 ^ (56 - 8 * k))))
      have hc2 : wr.cell? ⟨w.heap.size, k, none⟩ = some (.int .u8 0) := by
        rw [hcell]
        simp only [bvs, List.getElem?_map, List.getElem?_append, List.length_take, hel, Nat.min_eq_left hk, Nat.lt_irrefl, if_false, Nat.sub_self]
        rw [List.getElem?_replicate, if_pos (by omega)]
        rfl
      have hb := eight_byte x k
      rw [← hb] at hst
      have HST := Lib.hid hst
      clear hst hcell hb hel
      go_wp2
      go_roundw
      case rel =>
        refine ⟨k + 1, by go_num, by omega, ?_, hu.set_ (Nat.le_refl _) _⟩
        have h1 := HST.out.1
        show World.ownsRow _ _ _ _ _ _ _
        have e : bvs ((eightB x).take (k + 1) ++ List.replicate (8 - (k + 1)) 0) = (bvs ((eightB x).take k ++ List.replicate (8 - k) 0)).set k (Value.int .u8 ((x : Int) / 2 ^ (56 - 8 * k) % 256)) := by
          rw [eight_byte, ← eightB_step x k hlt, show 8 - k = (8 - (k + 1)) + 1 by omega, List.replicate_succ]
          have e9 : k - min k 8 = 0 := by omega
          simp only [bvs, List.map_append, List.map_cons, List.map_nil, List.append_assoc]
          rw [List.set_append_right _ _ (by simp [eightB_len]; omega)]
          simp [eightB_len, e9]
        rw [e]; exact h1
      case measure => simp [intOf]; omega
    · obtain rfl : k = 8 := by omega
      rw [List.take_of_length_le (by rw [eightB_len]; omega)] at hown
      have hcv := run_str 8 hown.rd
      simp only [Nat.sub_self, List.replicate_zero, List.append_nil] at hcv
      obtain ⟨s, hs⟩ : ∃ s : ByteArray, ByteArray.mk (eightB x).toArray = s := ⟨_, rfl⟩
      rw [hs] at hcv
      have HS : Hid (s.data.toList = eightB x) := by show _ = _; rw [← hs]
      clear hs
      go_wp2
      go_ret
      exact ⟨s, rfl, HS, hu⟩

end Go.Proofs.YtfmjgkfblejknaaGreat

/-
  The walks of the document's answers for items: Key, May, Equal; of the law's Some.
-/
namespace Go.Proofs.YtfmjgkfblejknaaGreat
open Go.RowKit
set_option linter.unusedVariables false
set_option linter.unusedSimpArgs false

set_option maxRecDepth 100000 in
set_option maxHeartbeats 1600000 in
theorem rkey_any (i : It) (w : World) :
    Calls Tryz.prog 28 #[.agg #[.int .i64 i.s.toInt, .int .i64 i.k.toInt, .int .u64 (i.t.toNat : Int), .int .u64 (i.v.toNat : Int), .int .i64 i.x.toInt]] w fun e w' => ∃ s : ByteArray, e = .returned (.string s) ∧ Hid (s.data.toList = keyB i) ∧ Up w w' := by
  have HC := two_str i.s.toInt i.k.toInt
  have h8 := eightB_len i.t.toNat
  go_enter Tryz.func28, Tryz.ntmps28
  go_wp2_with fail
  generalize hW : w.alloc (.cells #[.int .i64 i.s.toInt, .int .i64 i.k.toInt, .int .u64 (i.t.toNat : Int), .int .u64 (i.v.toNat : Int), .int .i64 i.x.toInt] 37) = W
  have hg := item_held w i hW
  have hWw : Up w W := by rw [← hW]; exact (Up.refl _).alloc _
  generalize w.heap.size = g5 at *
  clear hW
  apply Rg.region_up _ (by kernel_rfl) (by kernel_rfl) hg
  · intro QN hQN
    iterate 6 (apply Rg.RK.ok; (· intro vs w1 hS; go_simp; with_reducible rfl); (· rfl); simp only [Act.put, List.setIfInBounds_toArray, List.set_cons_zero, List.set_cons_succ, Nat.reduceAdd])
    apply Rg.RK.opn (fun v W1 => ∃ g, v = .slice (some ⟨g, 0, none⟩) 2 2 ∧ W1.cell? ⟨g, 0, none⟩ = some (.int .u8 (IntKind.u8.wrap (i.s.toInt))) ∧ W1.cell? ⟨g, 1, none⟩ = some (.int .u8 (IntKind.u8.wrap (i.k.toInt)))) Rg.ob [] []
    · rintro v W1 W2 ⟨g, rfl, h0, h1⟩ hs
      exact ⟨g, rfl, sta_some hs h0 (.inr rfl), sta_some hs h1 (.inr rfl)⟩
    · rfl
    · intro vs w1 hK hS _ K hKK
      go_simp
      refine hKK.out _ _ ⟨w1.heap.size, rfl, by simp [World.cell?_alloc_at _ _ _ _ rfl], by simp [World.cell?_alloc_at _ _ _ _ rfl]⟩ (Rg.Keeps.of_up ((Up.refl _).alloc _)) ?_
      rintro g rfl
      exact ⟨by simp, .inl (Nat.le_refl _)⟩
    simp only [Act.put, List.setIfInBounds_toArray, List.set_cons_zero, List.set_cons_succ, Nat.reduceAdd]
    apply Rg.RK.okU [6]
    · intro vs w1 hS hf
      obtain ⟨⟨g, hv, h0, h1⟩, -⟩ := hf
      rw [hv]
      go_simp
      with_reducible rfl
    · rfl
    simp only [Act.put, List.setIfInBounds_toArray, List.set_cons_zero, List.set_cons_succ, Nat.reduceAdd]
    iterate 2 (apply Rg.RK.ok; (· intro vs w1 hS; go_simp; with_reducible rfl); (· rfl); simp only [Act.put, List.setIfInBounds_toArray, List.set_cons_zero, List.set_cons_succ, Nat.reduceAdd])
    apply Rg.RK.call (.string (tx (eightB i.t.toNat))) []
    · rfl
    · intro vs w1 hK hS _ K hKK
      go_simp
      refine (reight_any _ _ (by have := i.t.toNat_lt; omega)).mono ?_
      rintro e w2 ⟨s1, rfl, hs1, hu1⟩
      rw [tx_of hs1.out]
      exact hKK.out _ hu1
    simp only [Act.put, List.setIfInBounds_toArray, List.set_cons_zero, List.set_cons_succ, Nat.reduceAdd]
    (apply Rg.RK.ok; (· intro vs w1 hS; go_simp; rw [if_neg (by simp [tx_size, cc_length]; omega), tx_append]); (· rfl); simp only [Act.put, List.setIfInBounds_toArray, List.set_cons_zero, List.set_cons_succ, Nat.reduceAdd])
    (apply Rg.RK.ok; (· intro vs w1 hS; go_simp; with_reducible rfl); (· rfl); simp only [Act.put, List.setIfInBounds_toArray, List.set_cons_zero, List.set_cons_succ, Nat.reduceAdd])
    apply Rg.RK.fin []
    intro vs w1 hK hS _
    refine hQN.out _ _ ?_
    clear hQN
    have hUW := hWw.trans (keeps_up hK)
    go_wp2_with fail
    go_ret
    refine ⟨_, rfl, ?_, hUW⟩
    show _ = _
    rw [tx_list]; rfl
  · kernel_rfl
end Go.Proofs.YtfmjgkfblejknaaGreat

/-
  The walk of clepsydraref5.Bytes.
-/
namespace Go.Proofs.YtfmjgkfblejknaaGreat
open Go.RowKit
set_option linter.unusedVariables false
set_option linter.unusedSimpArgs false

set_option maxRecDepth 100000 in
set_option maxHeartbeats 1600000 in
theorem rbytes_any (Q : Option Addr) (m d : Nat) (l : List It) (w : World) (hq : Rd w w.heap.size 5 Q m (itcs l)) (hm : m ≤ 2000) :
    Calls Tryz.prog 24 #[.slice Q m d] w fun e w' => ∃ s : ByteArray, e = .returned (.string s) ∧ Hid (s.data.toList = itemsB l) ∧ Up w w' := by
  have HL := Lib.hid hq.ilen
  go_enter Tryz.func24, Tryz.ntmps24
  go_wp2_with fail
  refine (rnum_any m _ (by omega)).mono ?_
  rintro e w1 ⟨s0, rfl, hs0, hu1⟩
  go_wp2_with fail
  go_loopw [3, 4] (fun sv i wr => ∃ (k : Nat) (L : List UInt8), i = .int .i64 (k : Int) ∧ sv = .string (tx L) ∧ k ≤ m ∧ Hid (L = numB m ++ (l.take k).flatMap itB) ∧ L.length ≤ 10 + 32 * k ∧ Up w wr) (fun _ i _ => m - (intOf i).toNat)
  case atStart =>
    refine ⟨0, numB m, rfl, ?_, by omega, by show _ = _; simp, by have := numB_ten (n := m) (by omega); omega, hu1⟩
    rw [tx_of hs0.out]
  case round =>
    obtain ⟨k, L, rfl, rfl, hk, hs, hss, hu⟩ := hrel
    by_cases hlt : k < m
    · obtain ⟨b, o, i, rfl, hb, hik, c0, c1, c2, c3, c4⟩ := (hq.stay (Nat.le_refl _) hu).item_at hlt
      have HI := Lib.hid hik
      clear hik
      go_wp2_with fail
      have hWw : Up w (wr.alloc (.cells #[.int .i64 i.s.toInt, .int .i64 i.k.toInt, .int .u64 (i.t.toNat : Int), .int .u64 (i.v.toNat : Int), .int .i64 i.x.toInt] 37)) := hu.alloc _
      generalize hW : wr.alloc (.cells #[.int .i64 i.s.toInt, .int .i64 i.k.toInt, .int .u64 (i.t.toNat : Int), .int .u64 (i.v.toNat : Int), .int .i64 i.x.toInt] 37) = W at *
      have hg := item_held wr i hW
      generalize wr.heap.size = g5 at *
      clear hW c0 c1 c2 c3 c4
      have HC := two_str i.s.toInt i.k.toInt
      have hn1 := numB_ten i.t.toNat_lt
      have hn2 := numB_ten i.v.toNat_lt
      have hsl := signN_lt i.x.toInt (i64_bd i.x).1 (i64_bd i.x).2
      have hn3 := numB_ten hsl
      apply Rg.region_up _ (by kernel_rfl) (by kernel_rfl) hg
      · intro QN hQN
        iterate 7 (apply Rg.RK.ok; (· intro vs w1 hS; go_simp; with_reducible rfl); (· rfl); simp only [Act.put, List.setIfInBounds_toArray, List.set_cons_zero, List.set_cons_succ, Nat.reduceAdd])
        apply Rg.RK.opn (fun v W1 => ∃ g, v = .slice (some ⟨g, 0, none⟩) 2 2 ∧ W1.cell? ⟨g, 0, none⟩ = some (.int .u8 (IntKind.u8.wrap (i.s.toInt))) ∧ W1.cell? ⟨g, 1, none⟩ = some (.int .u8 (IntKind.u8.wrap (i.k.toInt)))) Rg.ob [] []
        · rintro v W1 W2 ⟨g, rfl, h0, h1⟩ hs
          exact ⟨g, rfl, sta_some hs h0 (.inr rfl), sta_some hs h1 (.inr rfl)⟩
        · rfl
        · intro vs w1 hK hS _ K hKK
          go_simp
          refine hKK.out _ _ ⟨w1.heap.size, rfl, by simp [World.cell?_alloc_at _ _ _ _ rfl], by simp [World.cell?_alloc_at _ _ _ _ rfl]⟩ (Rg.Keeps.of_up ((Up.refl _).alloc _)) ?_
          rintro g rfl
          exact ⟨by simp, .inl (Nat.le_refl _)⟩
        simp only [Act.put, List.setIfInBounds_toArray, List.set_cons_zero, List.set_cons_succ, Nat.reduceAdd]
        apply Rg.RK.okU [7]
        · intro vs w1 hS hf
          obtain ⟨⟨g, hv, h0, h1⟩, -⟩ := hf
          rw [hv]
          go_simp
          with_reducible rfl
        · rfl
        simp only [Act.put, List.setIfInBounds_toArray, List.set_cons_zero, List.set_cons_succ, Nat.reduceAdd]
        (apply Rg.RK.ok; (· intro vs w1 hS; go_simp; rw [if_neg (by simp [tx_size, cc_length]; omega), tx_append]); (· rfl); simp only [Act.put, List.setIfInBounds_toArray, List.set_cons_zero, List.set_cons_succ, Nat.reduceAdd])
        iterate 2 (apply Rg.RK.ok; (· intro vs w1 hS; go_simp; with_reducible rfl); (· rfl); simp only [Act.put, List.setIfInBounds_toArray, List.set_cons_zero, List.set_cons_succ, Nat.reduceAdd])
        apply Rg.RK.call (.string (tx (numB i.t.toNat))) []
        · rfl
        · intro vs w1 hK hS _ K hKK
          go_simp
          refine (rnum_any _ _ (by have := i.t.toNat_lt; omega)).mono ?_
          rintro e w2 ⟨s1, rfl, hs1, hu1⟩
          rw [tx_of hs1.out]
          exact hKK.out _ hu1
        simp only [Act.put, List.setIfInBounds_toArray, List.set_cons_zero, List.set_cons_succ, Nat.reduceAdd]
        (apply Rg.RK.ok; (· intro vs w1 hS; go_simp; rw [if_neg (by simp [tx_size, cc_length]; omega), tx_append]); (· rfl); simp only [Act.put, List.setIfInBounds_toArray, List.set_cons_zero, List.set_cons_succ, Nat.reduceAdd])
        iterate 2 (apply Rg.RK.ok; (· intro vs w1 hS; go_simp; with_reducible rfl); (· rfl); simp only [Act.put, List.setIfInBounds_toArray, List.set_cons_zero, List.set_cons_succ, Nat.reduceAdd])
        apply Rg.RK.call (.string (tx (numB i.v.toNat))) []
        · rfl
        · intro vs w1 hK hS _ K hKK
          go_simp
          refine (rnum_any _ _ (by have := i.v.toNat_lt; omega)).mono ?_
          rintro e w2 ⟨s1, rfl, hs1, hu1⟩
          rw [tx_of hs1.out]
          exact hKK.out _ hu1
        simp only [Act.put, List.setIfInBounds_toArray, List.set_cons_zero, List.set_cons_succ, Nat.reduceAdd]
        (apply Rg.RK.ok; (· intro vs w1 hS; go_simp; rw [if_neg (by simp [tx_size, cc_length]; omega), tx_append]); (· rfl); simp only [Act.put, List.setIfInBounds_toArray, List.set_cons_zero, List.set_cons_succ, Nat.reduceAdd])
        iterate 2 (apply Rg.RK.ok; (· intro vs w1 hS; go_simp; with_reducible rfl); (· rfl); simp only [Act.put, List.setIfInBounds_toArray, List.set_cons_zero, List.set_cons_succ, Nat.reduceAdd])
        apply Rg.RK.call (.int .u64 (signN i.x.toInt : Int)) []
        · rfl
        · intro vs w1 hK hS _ K hKK
          go_simp
          refine (rsign_any _ _ (i64_bd i.x).1 (i64_bd i.x).2).mono ?_
          rintro e w2 ⟨rfl, rfl⟩
          exact hKK.out _ (Up.refl _)
        simp only [Act.put, List.setIfInBounds_toArray, List.set_cons_zero, List.set_cons_succ, Nat.reduceAdd]
        apply Rg.RK.call (.string (tx (numB (signN i.x.toInt)))) []
        · rfl
        · intro vs w1 hK hS _ K hKK
          go_simp
          refine (rnum_any _ _ (by omega)).mono ?_
          rintro e w2 ⟨s1, rfl, hs1, hu1⟩
          rw [tx_of hs1.out]
          exact hKK.out _ hu1
        simp only [Act.put, List.setIfInBounds_toArray, List.set_cons_zero, List.set_cons_succ, Nat.reduceAdd]
        (apply Rg.RK.ok; (· intro vs w1 hS; go_simp; rw [if_neg (by simp [tx_size, cc_length]; omega), tx_append]); (· rfl); simp only [Act.put, List.setIfInBounds_toArray, List.set_cons_zero, List.set_cons_succ, Nat.reduceAdd])
        (apply Rg.RK.ok; (· intro vs w1 hS; go_simp; with_reducible rfl); (· rfl); simp only [Act.put, List.setIfInBounds_toArray, List.set_cons_zero, List.set_cons_succ, Nat.reduceAdd])
        apply Rg.RK.fin []
        intro vs w1 hK hS _
        refine hQN.out _ _ ?_
        clear hQN
        have hUW : Up w w1 := hWw.trans (keeps_up hK)
        clear hg HC hK hS
        go_wp2_with fail
        go_roundw
        case rel =>
          have hkl : k < l.length := by have := HL.out; omega
          have htk : l.take (k + 1) = l.take k ++ [i] := by
            rw [List.take_succ_eq_append_getElem hkl]
            have := HI.out
            rw [List.getElem?_eq_getElem hkl] at this
            injection this with this
            rw [this]
          refine ⟨k + 1, _, by go_num, rfl, by omega, ?_, ?_, hUW⟩
          · show _ = _
            rw [htk, List.flatMap_append, hs.out]
            simp [cc, itB]
          · simp only [cc_length, List.length_cons, List.length_nil]; omega
        case measure => simp [intOf]; omega
      · kernel_rfl
    · have hkm : k = m := by omega
      have hlm : l.take k = l := by rw [List.take_of_length_le (by have := HL.out; omega)]
      go_wp2_with fail
      go_ret
      refine ⟨_, rfl, ?_, hu⟩
      show _ = _
      rw [tx_list, hs.out, hlm, itemsB, HL.out]
end Go.Proofs.YtfmjgkfblejknaaGreat

/-
  The walks of clepsydraref1.Unsign and clepsydraref5.Read.
-/
namespace Go.Proofs.YtfmjgkfblejknaaGreat
open Go.RowKit
set_option linter.unusedVariables false
set_option linter.unusedSimpArgs false

theorem u64_and_one (a : Nat) (ha : a < 18446744073709551616) : bits .and .u64 (a : Int) 1 = ((a % 2 : Nat) : Int) := by
  show IntKind.u64.wrap ((BitVec.ofInt 64 (a : Int) &&& BitVec.ofInt 64 1).toNat : Int) = _
  rw [BitVec.toNat_and, BitVec.ofInt_natCast, BitVec.toNat_ofNat, Nat.mod_eq_of_lt (by omega), IntKind.wrap_u64]
  have : (BitVec.ofInt 64 1).toNat = 1 := rfl
  rw [this, Nat.and_one_is_mod]; omega


/-- five cells at the head of a block, other than what was there before -/
def At5 (g : Nat) (v0 v1 v2 v3 v4 : Value) (W : World) : Prop := W.heap[g]? = some (.cells #[v0, v1, v2, v3, v4] 37 (0, 0))
def New5 (B : Nat) (v : Value) (W : World) : Prop := ∃ g, v = .pointer (some ⟨g, 0, none⟩) ∧ B ≤ g ∧ At5 g (.int .i64 0) (.int .i64 0) (.int .u64 0) (.int .u64 0) (.int .i64 0) W
theorem At5.sta {g : Nat} {v0 v1 v2 v3 v4 : Value} {w w' : World} {Y : Nat → Prop} (h : At5 g v0 v1 v2 v3 v4 w) (hs : Rg.Sta Y w w') (hy : Y g) : At5 g v0 v1 v2 v3 v4 w' :=
  (hs.block g (Array.getElem?_eq_some_iff.1 h).1 hy).trans h
theorem New5.sta {B : Nat} {v : Value} {w w' : World} {Y : Nat → Prop} (h : New5 B v w) (hs : Rg.Sta (fun g => Y g ∨ Rg.ob v g) w w') : New5 B v w' := by
  obtain ⟨g, rfl, hb, hh⟩ := h
  exact ⟨g, rfl, hb, hh.sta hs (.inr rfl)⟩
/-- the pointer leads to a new block that holds these numbers -/
def It5 (B x0 x1 : Nat) (v : Value) (W : World) : Prop := ∃ g, v = .pointer (some ⟨g, 0, none⟩) ∧ B ≤ g ∧ At5 g (.int .i64 (x0 : Int)) (.int .i64 (x1 : Int)) (.int .u64 0) (.int .u64 0) (.int .i64 0) W
theorem It5.sta {B x0 x1 : Nat} {v : Value} {w w' : World} {Y : Nat → Prop} (h : It5 B x0 x1 v w) (hs : Rg.Sta (fun g => Y g ∨ Rg.ob v g) w w') : It5 B x0 x1 v w' := by
  obtain ⟨g, rfl, hb, hh⟩ := h
  exact ⟨g, rfl, hb, hh.sta hs (.inr rfl)⟩
theorem cell_up {w w' : World} (hu : Up w w') {g o : Nat} {v : Value} (h : w.cell? ⟨g, o, none⟩ = some v) : w'.cell? ⟨g, o, none⟩ = some v :=
  (World.cell?_of_block (hu.block g (World.block_lt_of_cell? w ⟨g, o, none⟩ h))).trans h
/-- blocks that were written are newer than w -/
theorem keeps_fresh {w wq w2 : World} {gx : Nat} (hu : Up w wq) (hg : w.heap.size ≤ gx) (hK : Rg.Keeps (fun g => g = gx) wq.drew w2) : Up w w2 :=
  ⟨hK.os.trans hu.os, hK.tape.trans hu.tape, hK.output.trans hu.output, Nat.le_trans hu.size hK.size, fun k hk => (hK.block k (Nat.lt_of_lt_of_le hk hu.size) (by show ¬ k = gx; omega)).trans (hu.block k hk)⟩
theorem own_keeps {wq w2 : World} {base gx : Nat} {e : TypeId} {sz n : Nat} {v : Value} {xs : List Value} (h : wq.ownsRow base e sz v n xs) (hg : ∀ g, Rg.ob v g → g ≠ gx) (hK : Rg.Keeps (fun g => g = gx) wq.drew w2) : w2.ownsRow base e sz v n xs :=
  row_sta (Y := fun _ => False) h ⟨hK.size, fun g hl hy => hK.block g hl (hg g (hy.elim False.elim id))⟩
theorem At5.setc2 {g : Nat} {v0 v1 v2 v3 v4 u : Value} {W : World} (h : At5 g v0 v1 v2 v3 v4 W) : At5 g v0 v1 u v3 v4 (W.setCell ⟨g, 2, none⟩ u) := setc_heap W g 2 u _ _ h
theorem At5.setc3 {g : Nat} {v0 v1 v2 v3 v4 u : Value} {W : World} (h : At5 g v0 v1 v2 v3 v4 W) : At5 g v0 v1 v2 u v4 (W.setCell ⟨g, 3, none⟩ u) := setc_heap W g 3 u _ _ h
theorem At5.setc4 {g : Nat} {v0 v1 v2 v3 v4 u : Value} {W : World} (h : At5 g v0 v1 v2 v3 v4 W) : At5 g v0 v1 v2 v3 u (W.setCell ⟨g, 4, none⟩ u) := setc_heap W g 4 u _ _ h
theorem ext_tx {s : ByteArray} {l : List UInt8} (hs : s.data.toList = l) (a : Nat) : (s.extract a s.size).data.toList = l.drop a := by
  subst hs
  rw [ByteArray.data_extract, Array.toList_extract, List.extract_eq_take_drop]
  exact List.take_of_length_le (by rw [List.length_drop, Array.length_toList]; exact Nat.le_refl _)
/-- the item that bytes at a place begin with -/
theorem oneL_at (l : List UInt8) (p : Nat) (h : ¬ l.length - p < 2) : oneL (l.drop p) = if (takesL 3 [] (l.drop (p + 2))).1 = 0 then (0, mkIt (l.getD p 0).toNat (l.getD (p + 1) 0).toNat ((takesL 3 [] (l.drop (p + 2))).2.1.getD 0 0) ((takesL 3 [] (l.drop (p + 2))).2.1.getD 1 0) ((takesL 3 [] (l.drop (p + 2))).2.1.getD 2 0), (takesL 3 [] (l.drop (p + 2))).2.2)
    else ((takesL 3 [] (l.drop (p + 2))).1, noIt, []) := by
  conv => lhs; unfold oneL
  rw [if_neg (by rw [List.length_drop]; exact h), List.drop_drop]
  simp only [List.getD_eq_getElem?_getD, List.getElem?_drop, Nat.add_zero]

end Go.Proofs.YtfmjgkfblejknaaGreat

/-
  The walks of sum: add, Parts, Of.
-/
namespace Go.Proofs.YtfmjgkfblejknaaGreat
open Go.RowKit
set_option linter.unusedVariables false

def crcS (n : Nat) : Nat := if n % 2 = 1 then (n / 2) ^^^ 2197175160 else n / 2
def crcN : Nat → Nat → Nat
  | 0, n => n
  | k + 1, n => crcN k (crcS n)
def crcB (n : Nat) (b : UInt8) : Nat := crcN 8 (n ^^^ b.toNat)
def addC (n : Nat) (l : List UInt8) : Nat := l.foldl crcB n

theorem u32_and_one (a : Nat) (ha : a < 4294967296) : bits .and .u32 (a : Int) 1 = ((a % 2 : Nat) : Int) := by
  rw [show (1 : Int) = ((1 : Nat) : Int) from rfl, u32_and_nat a 1 ha (by decide), Nat.and_one_is_mod]
theorem crcS_lt {n : Nat} (h : n < 4294967296) : crcS n < 4294967296 := by
  unfold crcS
  split
  · have h2 : (n / 2) ^^^ 2197175160 < 2 ^ 32 := Nat.xor_lt_two_pow (by omega) (by decide)
    omega
  · omega
theorem crcS_val (z : Nat) (hz : z < 4294967296) : bits .xor .u32 ((z : Int) / 2) (bits .and .u32 2197175160 (-bits .and .u32 (z : Int) 1 % 4294967296)) = (crcS z : Int) := by
  rw [u32_and_one z hz]
  unfold crcS
  by_cases h : z % 2 = 1
  · rw [if_pos h, h, show (-((1 : Nat) : Int)) % 4294967296 = ((4294967295 : Nat) : Int) by decide, show (2197175160 : Int) = ((2197175160 : Nat) : Int) from rfl, u32_and_nat _ _ (by decide) (by decide),
      show (z : Int) / 2 = ((z / 2 : Nat) : Int) by omega, show 2197175160 &&& 4294967295 = 2197175160 by decide, u32_xor_nat _ _ (by omega) (by decide)]
  · have h0 : z % 2 = 0 := by omega
    rw [if_neg h, h0, show (-((0 : Nat) : Int)) % 4294967296 = ((0 : Nat) : Int) by decide, show (2197175160 : Int) = ((2197175160 : Nat) : Int) from rfl, u32_and_nat _ _ (by decide) (by decide),
      show (z : Int) / 2 = ((z / 2 : Nat) : Int) by omega, show 2197175160 &&& 0 = 0 by decide, u32_xor_nat _ _ (by omega) (by decide), Nat.xor_zero]
theorem crcN_lt : ∀ (k : Nat) {n : Nat}, n < 4294967296 → crcN k n < 4294967296
  | 0, _, h => h
  | k + 1, _, h => crcN_lt k (crcS_lt h)
theorem xorB_lt {x : Nat} (b : UInt8) (h : x < 4294967296) : x ^^^ b.toNat < 4294967296 := by
  have h2 : x ^^^ b.toNat < 2 ^ 32 := Nat.xor_lt_two_pow (by omega) (by have := b.toNat_lt; omega)
  omega
theorem crcB_lt {n : Nat} (b : UInt8) (h : n < 4294967296) : crcB n b < 4294967296 := crcN_lt 8 (xorB_lt b h)
theorem addC_lt {n : Nat} (l : List UInt8) (h : n < 4294967296) : addC n l < 4294967296 := by
  induction l generalizing n with
  | nil => exact h
  | cons b l ih => exact ih (crcB_lt b h)
theorem addC_append (n : Nat) (a b : List UInt8) : addC n (a ++ b) = addC (addC n a) b := by simp [addC]

set_option maxRecDepth 100000 in
set_option maxHeartbeats 1600000 in
theorem add_any (A : Option Addr) (m c : Nat) (l : List UInt8) (n : Nat) (w : World) (hr : Rd w w.heap.size 1 A m (bvs l)) (hm : m ≤ 9223372036854775807) (hn : n < 4294967296) :
    Calls Tryz.prog 105 #[.int .u32 (n : Int), .slice A m c] w fun e w' => e = .returned (.int .u32 (addC n l : Int)) ∧ w = w' := by
  have HL := Lib.hid hr.blen
  have HN := Lib.hid (Eq.refl (addC n l))
  go_enter Tryz.func105, Tryz.ntmps105
  go_wp2_with fail
  go_loop [0, 9] (fun q i => ∃ (k : Nat) (x : Nat), i = .int .i64 (k : Int) ∧ q = .int .u32 (x : Int) ∧ x < 4294967296 ∧ k ≤ m ∧ Hid (addC n (l.take k) = x)) (fun _ i => m - (intOf i).toNat)
  case atStart => exact ⟨0, n, rfl, rfl, hn, by omega, rfl⟩
  case round =>
    obtain ⟨k, x, rfl, rfl, hx, hk, hH⟩ := hrel
    by_cases hlt : k < m
    · obtain ⟨b, o, rfl, hb, hc⟩ := hr.byte hlt
      have hq : l.take (k + 1) = l.take k ++ [l.getD k 0] := by
        have : k < l.length := by have := HL.out; omega
        rw [List.take_succ_eq_append_getElem this]; simp [List.getD, this]
      generalize l.getD k 0 = b0 at hc hq
      have hxb : bits .xor .u32 (x : Int) ((b0.toNat : Int) % 4294967296) = ((x ^^^ b0.toNat : Nat) : Int) := by
        have := b0.toNat_lt
        rw [Int.emod_eq_of_lt (by omega) (by omega), u32_xor_nat _ _ hx (by omega)]
      have HQ := Lib.hid hq
      have hx0 := xorB_lt b0 hx
      clear hq
      go_wp2_with fail
      clear hxb
      generalize hz0 : x ^^^ b0.toNat = z0 at *
      have HZ := Lib.hid hz0
      clear hz0
      go_loop [0, 17] (fun q j => ∃ (z : Nat) (jj : Nat), j = .int .i64 (jj : Int) ∧ q = .int .u32 (z : Int) ∧ z < 4294967296 ∧ jj ≤ 8 ∧ Hid (crcN (8 - jj) z = crcN 8 z0)) (fun _ j => 8 - (intOf j).toNat)
      case atStart => exact ⟨z0, 0, rfl, rfl, hx0, by omega, rfl⟩
      case round =>
        obtain ⟨z, jj, rfl, rfl, hz, hj, hcz⟩ := hrel
        by_cases hlt2 : jj < 8
        · have hs := crcS_val z hz
          have hsl := crcS_lt hz
          go_wp2_with fail
          clear hs
          go_round
          case rel =>
            refine ⟨crcS z, jj + 1, by go_num, rfl, hsl, by omega, ?_⟩
            show _ = _
            rw [← hcz.out, show 8 - jj = (8 - (jj + 1)) + 1 by omega]; rfl
          case measure => simp [intOf]; omega
        · have h8 : jj = 8 := by omega
          subst h8
          go_wp2_with fail
          go_round
          case rel =>
            refine ⟨k + 1, z, by go_num, rfl, hz, by omega, ?_⟩
            show _ = _
            rw [HQ.out, addC_append, hH.out]
            show crcN 8 (x ^^^ b0.toNat) = z
            rw [HZ.out, ← hcz.out]; rfl
          case measure => simp [intOf]; omega
    · go_wp2_with fail
      go_ret
      have hk' : k = l.length := by have := HL.out; omega
      rw [hk', List.take_of_length_le (Nat.le_refl _)] at hH
      rw [hH.out]
      exact ⟨rfl, rfl⟩
end Go.Proofs.YtfmjgkfblejknaaGreat

/-
  The walks of sum: Parts (of one text), Of, Seal, Open.
-/
namespace Go.Proofs.YtfmjgkfblejknaaGreat
open Go.RowKit
set_option linter.unusedVariables false

def sumC (l : List UInt8) : Nat := 4294967295 - addC 4294967295 l
def sumB (n : Nat) : List UInt8 := [UInt8.ofNat n, UInt8.ofNat (n / 256), UInt8.ofNat (n / 65536), UInt8.ofNat (n / 16777216)]
def sealB (l : List UInt8) : List UInt8 := l ++ sumB (sumC l)
theorem sumC_lt (l : List UInt8) : sumC l < 4294967296 := by unfold sumC; omega
theorem sumB_len (n : Nat) : (sumB n).length = 4 := rfl
theorem sealB_len (l : List UInt8) : (sealB l).length = l.length + 4 := by simp [sealB, sumB_len]

theorem u32_not (x : Nat) (hx : x < 4294967296) : bits .xor .u32 IntKind.u32.max (x : Int) = ((4294967295 - x : Nat) : Int) := by
  rw [show IntKind.u32.max = ((4294967295 : Nat) : Int) by decide, u32_xor_nat _ _ (by decide) hx, Nat.xor_comm]
  congr 1
  have h := congrArg BitVec.toNat (BitVec.xor_allOnes (x := BitVec.ofNat 32 x))
  rw [BitVec.toNat_xor, BitVec.toNat_allOnes, BitVec.toNat_not, BitVec.toNat_ofNat, Nat.mod_eq_of_lt (by simpa using hx)] at h
  simpa using h
set_option maxRecDepth 100000 in
set_option maxHeartbeats 1600000 in
theorem parts1_any (g : Nat) (A : Option Addr) (n c : Nat) (l : List UInt8) (w : World) (hc : w.cell? ⟨g, 0, none⟩ = some (.slice A n c)) (hr : Rd w w.heap.size 1 A n (bvs l)) (hn : n ≤ 9223372036854775807) :
    Calls Tryz.prog 100 #[.slice (some ⟨g, 0, none⟩) 1 1] w fun e w' => e = .returned (.int .u32 (sumC l : Int)) ∧ w = w' := by
  have hl := addC_lt l (n := 4294967295) (by decide)
  have hv : sumC l = 4294967295 - addC 4294967295 l := rfl
  have HV := Lib.hid hv
  clear hv
  go_enter Tryz.func100, Tryz.ntmps100
  go_wp2_with fail
  go_loop [3, 8] (fun q i => ∃ (k : Nat) (x : Nat), i = .int .i64 (k : Int) ∧ q = .int .u32 (x : Int) ∧ k ≤ 1 ∧ Hid (k = 0 → x = 4294967295) ∧ Hid (k = 1 → x = addC 4294967295 l)) (fun _ i => 1 - (intOf i).toNat)
  case atStart => exact ⟨0, 4294967295, rfl, rfl, by omega, fun _ => rfl, fun h => by omega⟩
  case round =>
    obtain ⟨k, x, rfl, rfl, hk, h0, h1⟩ := hrel
    by_cases hk0 : k = 0
    · have hx := h0.out hk0
      subst hk0
      subst hx
      clear h0 h1
      go_wp2_with fail
      refine (add_any A n c l 4294967295 w hr hn (by decide)).mono ?_
      rintro e w1 ⟨rfl, rfl⟩
      go_wp2_with fail
      go_round
      case rel => exact ⟨1, addC 4294967295 l, rfl, rfl, by omega, fun h => by omega, fun _ => rfl⟩
      case measure => simp [intOf]
    · have hk1 : k = 1 := by omega
      have hx := h1.out hk1
      subst hk1
      clear h0 h1 hk0
      generalize addC 4294967295 l = y at *
      subst hx
      go_wp2_with fail
      go_ret
      rw [HV.out, u32_not x hl]
      exact ⟨rfl, rfl⟩
set_option maxRecDepth 100000 in
set_option maxHeartbeats 1600000 in
theorem of_any (A : Option Addr) (n c : Nat) (l : List UInt8) (w : World) (hr : Rd w w.heap.size 1 A n (bvs l)) (hn : n ≤ 9223372036854775807) :
    Calls Tryz.prog 91 #[.slice A n c] w fun e w' => e = .returned (.int .u32 (sumC l : Int)) ∧ Up w w' := by
  go_enter Tryz.func91, Tryz.ntmps91
  go_wp2_with fail
  refine (parts1_any w.heap.size A n c l _ (by rw [World.cell?_alloc_at (w := w) _ _ _ _ rfl]; rfl) (hr.up ((Up.refl w).alloc _)) hn).mono ?_
  rintro e w1 ⟨rfl, rfl⟩
  go_wp2_with fail
  go_ret
  exact ⟨rfl, (Up.refl w).alloc _⟩

set_option maxRecDepth 100000 in
set_option maxHeartbeats 1600000 in
theorem seal_any (A : Option Addr) (n c : Nat) (l : List UInt8) (w : World) (hr : Rd w w.heap.size 1 A n (bvs l)) (hn : n ≤ 1099511627776) :
    Calls Tryz.prog 71 #[.slice A n c] w fun e w' => ∃ A' c', e = .returned (.slice A' (n + 4) c') ∧ OwnB w' w.heap.size A' (n + 4) c' (sealB l) ∧ Up w w' := by
  have hs := sumC_lt l
  have hv : sealB l = l ++ sumB (sumC l) := rfl
  have HV := Lib.hid hv
  clear hv
  go_enter Tryz.func71, Tryz.ntmps71
  go_wp2_with fail
  refine (of_any A n c l w hr (by omega)).mono ?_
  rintro e w1 ⟨rfl, hu1⟩
  generalize sumC l = y at *
  have hnil : OwnB w1 w.heap.size none 0 0 [] := World.ownsRow_nil _ _ _ _
  have hr1 := hr.up hu1
  have hb : ([.int .u8 ((y : Int) % 256), .int .u8 ((y : Int) / 256 % 256), .int .u8 ((y : Int) / 65536 % 256), .int .u8 ((y : Int) / 16777216)] : List Value) = bvs (sumB y) := by
    have e1 : (y : Int) % 256 = ((y % 256 : Nat) : Int) := by omega
    have e2 : (y : Int) / 256 % 256 = ((y / 256 % 256 : Nat) : Int) := by omega
    have e3 : (y : Int) / 65536 % 256 = ((y / 65536 % 256 : Nat) : Int) := by omega
    have e4 : (y : Int) / 16777216 = ((y / 16777216 % 256 : Nat) : Int) := by omega
    simp only [bvs, sumB, List.map_cons, List.map_nil, bv_ofNat, e1, e2, e3, e4]
  have HB := Lib.hid hb
  clear hb
  go_wp2_with (first
    | (at_builtin; refine wpList_append_rd _ bytesT hnil hr1 (bvs_one _) (by omega) (by omega) (by have := hu1.size; omega) rfl rfl rfl rfl ?_; intro v2 w2 hown2 hg2 hat2; obtain ⟨A2, c2, rfl⟩ := own_form hown2; simp only [Nat.zero_add] at hown2; rw [show bvs [] ++ bvs l = bvs l from rfl] at hown2)
    | (at_builtin; refine wpList_append_rd _ bytesT (World.ownsRow.alloc hown2 _) (Rd.lit_at _ (sumB y) _ _ rfl HB.out) (bvs_one _) (by simp [sumB_len]; omega) (by simp [sumB_len]; omega) (by simp; have := hu1.size; have := hg2.size; omega) rfl rfl rfl rfl ?_; intro v3 w3 hown3 hg3 hat3; obtain ⟨A3, c3, rfl⟩ := own_form hown3))
  go_ret
  rw [sumB_len, ← bvs_append] at hown3
  refine ⟨A3, c3, rfl, ?_, ?_⟩
  · rw [HV.out]; exact hown3
  · exact ((hu1.grown hg2 (fun g hg => by simp [Value.ownBlock] at hg)).alloc _).grown hg3 (fun g hg => (hown2.lt g hg).1)
end Go.Proofs.YtfmjgkfblejknaaGreat

/-
  The walk of sum.Open.
-/
namespace Go.Proofs.YtfmjgkfblejknaaGreat
open Go.RowKit
set_option linter.unusedVariables false
set_option linter.unusedSimpArgs false

def openE (l : List UInt8) : Nat := if l.length < 4 then 4 else if sealB (l.take (l.length - 4)) = l then 0 else 5
/-- what Open hands back -/
def openL (l : List UInt8) : List UInt8 := if openE l = 0 then l.take (l.length - 4) else []

set_option maxRecDepth 100000 in
set_option maxHeartbeats 1600000 in
theorem open_any (A : Option Addr) (n c : Nat) (l : List UInt8) (w : World) (hr : Rd w w.heap.size 1 A n (bvs l)) (hn : n ≤ 1099511627776) (hc : n ≤ c) :
    Calls Tryz.prog 85 #[.slice A n c] w fun e w' => ∃ A' n' c', e = .returned (.tuple #[.slice A' n' c', .int .i64 (openE l : Int)]) ∧ OwnB w' w.heap.size A' n' c' (openL l) ∧ Up w w' := by
  have HL := Lib.hid hr.blen
  have nil0 : ∀ w0, OwnB w0 w.heap.size none 0 0 [] := fun w0 => World.ownsRow_nil _ _ _ _
  have NIL := Lib.hid nil0
  clear nil0
  by_cases h4 : n < 4
  · have hE : openE l = 4 := by unfold openE; rw [if_pos (by rw [← HL.out]; exact h4)]
    have hL : openL l = [] := by unfold openL; rw [hE]; rfl
    have HE := Lib.hid hE
    have HO := Lib.hid hL
    clear hE hL
    go_enter Tryz.func85, Tryz.ntmps85
    go_wp2_with fail
    go_ret2
    rw [HE.out, HO.out]
    exact ⟨none, 0, 0, rfl, NIL.out _, Up.refl _⟩
  · have hk : n - 4 ≤ n := by omega
    have hrt := hr.bto hk
    have hle : ((n : Int) - 4).toNat = n - 4 := by omega
    have h0 : (0 : Int) ≤ (n : Int) - 4 := by omega
    have h1 : (n : Int) - 4 ≤ c := by omega
    have h2 : (4 : Int) ≤ n := by omega
    have hd : decide ((n : Int) - 4 < 0) = false := by simp; omega
    have hln : l.length - 4 = n - 4 := by rw [HL.out]
    by_cases hq : sealB (l.take (n - 4)) = l
    · have hE : openE l = 0 := by unfold openE; rw [if_neg (by rw [← HL.out]; exact h4), hln, if_pos hq]
      have hL : openL l = l.take (n - 4) := by unfold openL; rw [hE, hln]; rfl
      have HE := Lib.hid hE
      have HO := Lib.hid hL
      have hb := tx_beq hq
      clear hE hL hln hq
      go_enter Tryz.func85, Tryz.ntmps85
      go_wp2_with fail
      apply Rg.region_up (fun W => Up w W) (by kernel_rfl) (by kernel_rfl) (fun w1 h => h)
      · intro QN hQN
        iterate 3 (apply Rg.RK.ok; (· intro vs w1 hS; go_simp; with_reducible rfl); (· rfl); simp only [Act.put, List.setIfInBounds_toArray, List.set_cons_zero, List.set_cons_succ, Nat.reduceAdd])
        apply Rg.RK.opn (Sl 1 (bvs (sealB (l.take (n - 4))))) Rg.ob [] []
        · exact fun v W1 W2 h hs => h.sta hs
        · rfl
        · intro vs w1 hK hS hf K hKK
          go_simp
          refine (seal_any A (n - 4) c _ w1 (hrt.up hS) (by omega)).mono ?_
          rintro e w2 ⟨A1, c1, rfl, ho1, hu2⟩
          exact hKK.out _ _ (Sl.own ho1) (Rg.Keeps.of_up hu2) (own_row ho1)
        simp only [Act.put, List.setIfInBounds_toArray, List.set_cons_zero, List.set_cons_succ, Nat.reduceAdd]
        apply Rg.RK.okU [3] (v := .string (tx (sealB (l.take (n - 4)))))
        · intro vs w1 hS hf
          obtain ⟨⟨A1, n1, c1, hv, -, hrd⟩, -⟩ := hf
          exact exec_str rfl hv hrd
        · rfl
        simp only [Act.put, List.setIfInBounds_toArray, List.set_cons_zero, List.set_cons_succ, Nat.reduceAdd]
        (apply Rg.RK.ok; (· intro vs w1 hS; go_simp; with_reducible rfl); (· rfl); simp only [Act.put, List.setIfInBounds_toArray, List.set_cons_zero, List.set_cons_succ, Nat.reduceAdd])
        apply Rg.RK.ok
        · intro vs w1 hS
          exact exec_str rfl rfl (hr.up hS)
        · rfl
        simp only [Act.put, List.setIfInBounds_toArray, List.set_cons_zero, List.set_cons_succ, Nat.reduceAdd]
        apply Rg.RK.ok
        · intro vs w1 hS
          go_simp
          with_reducible rfl
        · rfl
        simp only [Act.put, List.setIfInBounds_toArray, List.set_cons_zero, List.set_cons_succ, Nat.reduceAdd]
        (apply Rg.RK.ok; (· intro vs w1 hS; go_simp; with_reducible rfl); (· rfl); simp only [Act.put, List.setIfInBounds_toArray, List.set_cons_zero, List.set_cons_succ, Nat.reduceAdd])
        apply Rg.RK.fin []
        intro vs w1 hK hS _
        refine hQN.out _ _ ?_
        clear hQN
        have hu := keeps_up hK
        go_wp2_with (at_builtin; refine wpList_append_rd _ bytesT (World.ownsRow_nil _ w.heap.size _ _) (hrt.up hu) (bvs_one _) (by omega) (by omega) hu.size rfl rfl rfl rfl ?_; intro v2 w2 hown2 hg2 hat2; obtain ⟨A2, c2, rfl⟩ := own_form hown2; simp only [Nat.zero_add, List.nil_append] at hown2)
        go_ret2
        rw [HE.out, HO.out]
        exact ⟨A2, n - 4, c2, by simp, hown2, hu.grown hg2 (fun g hg => by simp [Value.ownBlock] at hg)⟩
      · kernel_rfl

    · have hE : openE l = 5 := by unfold openE; rw [if_neg (by rw [← HL.out]; exact h4), hln, if_neg hq]
      have hL : openL l = [] := by unfold openL; rw [hE]; rfl
      have HE := Lib.hid hE
      have HO := Lib.hid hL
      have hb := tx_bne hq
      clear hE hL hln hq
      go_enter Tryz.func85, Tryz.ntmps85
      go_wp2_with fail
      apply Rg.region_up (fun W => Up w W) (by kernel_rfl) (by kernel_rfl) (fun w1 h => h)
      · intro QN hQN
        iterate 3 (apply Rg.RK.ok; (· intro vs w1 hS; go_simp; with_reducible rfl); (· rfl); simp only [Act.put, List.setIfInBounds_toArray, List.set_cons_zero, List.set_cons_succ, Nat.reduceAdd])
        apply Rg.RK.opn (Sl 1 (bvs (sealB (l.take (n - 4))))) Rg.ob [] []
        · exact fun v W1 W2 h hs => h.sta hs
        · rfl
        · intro vs w1 hK hS hf K hKK
          go_simp
          refine (seal_any A (n - 4) c _ w1 (hrt.up hS) (by omega)).mono ?_
          rintro e w2 ⟨A1, c1, rfl, ho1, hu2⟩
          exact hKK.out _ _ (Sl.own ho1) (Rg.Keeps.of_up hu2) (own_row ho1)
        simp only [Act.put, List.setIfInBounds_toArray, List.set_cons_zero, List.set_cons_succ, Nat.reduceAdd]
        apply Rg.RK.okU [3] (v := .string (tx (sealB (l.take (n - 4)))))
        · intro vs w1 hS hf
          obtain ⟨⟨A1, n1, c1, hv, -, hrd⟩, -⟩ := hf
          exact exec_str rfl hv hrd
        · rfl
        simp only [Act.put, List.setIfInBounds_toArray, List.set_cons_zero, List.set_cons_succ, Nat.reduceAdd]
        (apply Rg.RK.ok; (· intro vs w1 hS; go_simp; with_reducible rfl); (· rfl); simp only [Act.put, List.setIfInBounds_toArray, List.set_cons_zero, List.set_cons_succ, Nat.reduceAdd])
        apply Rg.RK.ok
        · intro vs w1 hS
          exact exec_str rfl rfl (hr.up hS)
        · rfl
        simp only [Act.put, List.setIfInBounds_toArray, List.set_cons_zero, List.set_cons_succ, Nat.reduceAdd]
        apply Rg.RK.ok
        · intro vs w1 hS
          go_simp
          with_reducible rfl
        · rfl
        simp only [Act.put, List.setIfInBounds_toArray, List.set_cons_zero, List.set_cons_succ, Nat.reduceAdd]
        (apply Rg.RK.ok; (· intro vs w1 hS; go_simp; with_reducible rfl); (· rfl); simp only [Act.put, List.setIfInBounds_toArray, List.set_cons_zero, List.set_cons_succ, Nat.reduceAdd])
        apply Rg.RK.fin []
        intro vs w1 hK hS _
        refine hQN.out _ _ ?_
        clear hQN
        have hu := keeps_up hK
        go_wp2_with fail
        go_ret2
        rw [HE.out, HO.out]
        exact ⟨none, 0, 0, rfl, NIL.out _, hu⟩
      · kernel_rfl

end Go.Proofs.YtfmjgkfblejknaaGreat

/-
  The walks of slices.Grow and slices.Concat, of bytes.
-/
namespace Go.Proofs.YtfmjgkfblejknaaGreat
open Go.RowKit
set_option linter.unusedVariables false
set_option linter.unusedSimpArgs false

theorem grown_row (w : World) (n : Nat) (base : Nat) (h0 : 0 < n) (hb : base ≤ w.heap.size) (hm : n ≤ 140737488355328) :
    ∃ c w', (Builtin.append_ #[22, 3] 22 #[.slice none 0 0, .int .i64 n]).run Tryz.prog w = .ok (.slice (some ⟨w.heap.size, 0, none⟩) n c) w' ∧ OwnB w' base (some ⟨w.heap.size, 0, none⟩) 0 c [] ∧ Up w w' ∧ n ≤ c := by
  obtain ⟨i, hi, hz, hs, hby⟩ := info_parts (P := Tryz.prog) (e := 5) (z := .int .u8 0) (size := 1) (bytes := 1) (by kernel_rfl)
  have := Lib.run_append_nil_zeros (P := Tryz.prog) w 22 3 22 5 i (.int .u8 0) .i64 .i64 bytesT.ut Tryz.underlying3 hi hz n h0 (by rw [hs]; omega) (by omega) (by rw [hby]; omega)
  have hge := grownCap_ge w n 0 5
  have hle := grownCap_le_maxLen w n 0 5 (by simp only [maxLen]; omega)
  refine ⟨_, _, this, ?_, (Up.refl w).drew.alloc _, hge⟩
  refine ⟨rfl, .inr ⟨w.heap.size, _, _, rfl, hb, heap_alloc_new w.drew _, Nat.zero_le _, hle, ?_, rfl⟩⟩
  rw [Array.size_append, size_zeroCells, size_zeroCells]
  show n * 1 + (_ - n) * 1 = _ * 1
  omega

set_option maxRecDepth 100000 in
set_option maxHeartbeats 1600000 in
theorem grow_any (n : Nat) (w : World) (hm : n ≤ 140737488355328) :
    Calls Tryz.prog 92 #[.slice none 0 0, .int .i64 n] w fun e w' => ∃ A c, e = .returned (.slice A 0 c) ∧ OwnB w' w.heap.size A 0 c [] ∧ Up w w' := by
  by_cases h0 : 0 < n
  · go_enter Tryz.func92, Tryz.ntmps92
    obtain ⟨c, w2, hrun, hown, hu, hc⟩ := grown_row w n w.heap.size h0 (Nat.le_refl _) hm
    have h9 : (n : Int) ≤ 9223372036854775807 := by omega
    go_wp2_with (at_builtin; refine Lib.wpList_append_run _ rfl _ _ _ _ rfl _ _ rfl rfl _ _ hrun ?_)
    go_ret
    exact ⟨_, c, rfl, hown, hu⟩
  · obtain rfl : n = 0 := by omega
    go_enter Tryz.func92, Tryz.ntmps92
    go_wp2_with fail
    go_ret
    exact ⟨none, 0, rfl, World.ownsRow_nil _ _ _ _, Up.refl _⟩
def ptsL (ps : List Pt) : List UInt8 := ps.flatMap (·.l)
theorem ptsL_take {ps : List Pt} {k : Nat} {p : Pt} (h : ps[k]? = some p) : ptsL (ps.take (k + 1)) = ptsL (ps.take k) ++ p.l := by
  obtain ⟨hk, rfl⟩ := List.getElem?_eq_some_iff.1 h
  unfold ptsL
  rw [List.take_succ_eq_append_getElem hk, List.flatMap_append, List.flatMap_singleton]
theorem ptsL_le (ps : List Pt) (k : Nat) : (ptsL (ps.take k)).length ≤ (ptsL ps).length := by
  have : ptsL ps = ptsL (ps.take k) ++ ptsL (ps.drop k) := by
    unfold ptsL; rw [← List.flatMap_append, List.take_append_drop]
  rw [this, List.length_append]; omega

set_option maxRecDepth 100000 in
set_option maxHeartbeats 1600000 in
theorem concat_any (Q : Option Addr) (m d : Nat) (ps : List Pt) (w : World) (hq : Rd w w.heap.size 1 Q m (ps.map Pt.v)) (hp : ∀ p ∈ ps, Rd w w.heap.size 1 p.A p.n (bvs p.l)) (ht : (ptsL ps).length ≤ 1099511627776) (hm : m ≤ 9223372036854775807) :
    Calls Tryz.prog 72 #[.slice Q m d] w fun e w' => ∃ A c, e = .returned (.slice A (ptsL ps).length c) ∧ OwnB w' w.heap.size A (ptsL ps).length c (ptsL ps) ∧ Up w w' := by
  have HM : Hid (m = ps.length) := by show _ = _; have := hq.1; rw [List.length_map] at this; omega
  have HP := Lib.hid hp
  clear hp
  have at_ : ∀ k, k < m → ∃ b o p, Q = some ⟨b, o, none⟩ ∧ b < w.heap.size ∧ ps[k]? = some p ∧ p ∈ ps ∧ ∀ W, Up w W → W.cell? ⟨b, o + k, none⟩ = some (.slice p.A p.n p.c) := by
    intro k hk
    obtain ⟨b, o, e, hb, hc⟩ := hq.2 (by omega)
    have hkl : k < ps.length := by have := HM.out; omega
    refine ⟨b, o, ps[k], e, hb, List.getElem?_eq_getElem hkl, List.getElem_mem _, fun W hW => ?_⟩
    have h1 := hc k (ps[k]).v (by simp [hkl])
    exact (hW.cell (p := ⟨b, o + k, none⟩) hb).trans h1
  have AT := Lib.hid at_
  clear at_
  have HT := Lib.hid ht
  clear ht
  go_enter Tryz.func72, Tryz.ntmps72
  go_wp2_with fail
  go_loop [3, 5, 11] (fun t _ i => ∃ k : Nat, i = .int .i64 (k : Int) ∧ k ≤ m ∧ t = .int .i64 ((ptsL (ps.take k)).length : Int)) (fun _ _ i => m - (intOf i).toNat)
  case atStart => exact ⟨0, rfl, by omega, rfl⟩
  case round =>
    obtain ⟨k, rfl, hk, rfl⟩ := hrel
    by_cases hlt : k < m
    · obtain ⟨b, o, p, rfl, hb, hpk, hpm, hcell⟩ := AT.out k hlt
      have hc := hcell w (Up.refl w)
      have hl := (HP.out p hpm).blen
      have h1 := ptsL_take hpk
      have h2 := ptsL_le ps (k + 1)
      have h3 : (ptsL (ps.take (k + 1))).length = (ptsL (ps.take k)).length + p.n := by rw [h1, List.length_append, hl]
      have H3 := Lib.hid h3
      have hbd : (ptsL (ps.take k)).length + p.n ≤ 1099511627776 := by have := HT.out; omega
      clear h1 h2 h3 hcell hl hpk
      generalize (ptsL (ps.take k)).length = s at *
      go_wp2
      go_round
      case rel => exact ⟨k + 1, by go_num, by omega, by rw [H3.out]; go_num⟩
      case measure => simp [intOf]; omega
    · have hkm : k = m := by omega
      subst hkm
      have hall : ps.take k = ps := List.take_of_length_le (by have := HM.out; omega)
      rw [hall]
      clear hall
      have hbig : (ptsL ps).length ≤ 140737488355328 := by have := HT.out; omega
      go_wp2_with fail
      refine (grow_any _ w hbig).mono ?_
      rintro e w1 ⟨A1, c1, rfl, ho1, hu1⟩
      go_wp2_with fail
      go_loopw [6, 8, 27] (fun v _ i wr => ∃ (j : Nat) (R : Option Addr) (n c : Nat), i = .int .i64 (j : Int) ∧ j ≤ k ∧ v = .slice R n c ∧ OwnB wr w.heap.size R n c (ptsL (ps.take j)) ∧ Up w wr) (fun _ _ i _ => k - (intOf i).toNat)
      case atStart => exact ⟨0, A1, 0, c1, rfl, by omega, rfl, ho1, hu1⟩
      case round =>
        obtain ⟨j, R, n, c, rfl, hj, rfl, ho, hu⟩ := hrel
        by_cases hlt' : j < k
        · obtain ⟨b, o, p, rfl, hb, hpk, hpm, hcell⟩ := AT.out j hlt'
          have hc := hcell wr hu
          have hrp := (HP.out p hpm).stay (Nat.le_refl _) hu
          have hl := hrp.blen
          have h1 := ptsL_take hpk
          have h2 := ptsL_le ps (j + 1)
          have hn := ho.len
          have hbd : n + p.n ≤ 1099511627776 := by
            have := HT.out
            rw [h1, List.length_append] at h2; omega
          have H1 := Lib.hid h1
          clear h1 h2 hcell hl hpk hn
          go_wp2_with (at_builtin; refine wpList_append_rd _ bytesT ho hrp (bvs_one _) (by omega) (by omega) hu.size rfl rfl rfl rfl ?_; intro v2 w2 hown2 hg2 hat2; obtain ⟨A2, c2, rfl⟩ := own_form hown2)
          rw [← bvs_append, ← H1.out] at hown2
          have hu2 : Up w w2 := hu.grown hg2 (fun g hg => (ho.lt g hg).1)
          go_roundw
          case rel => exact ⟨j + 1, A2, n + p.n, c2, by go_num, by omega, rfl, hown2, hu2⟩
          case measure => simp [intOf]; omega
        · have hjk : j = k := by omega
          subst hjk
          have hall : ps.take j = ps := List.take_of_length_le (by have := HM.out; omega)
          rw [hall] at ho
          have hn := ho.len
          have HN := Lib.hid hn
          clear hn hall
          go_wp2_with fail
          go_ret
          have hn := HN.out
          subst hn
          exact ⟨R, c, rfl, ho, hu⟩
end Go.Proofs.YtfmjgkfblejknaaGreat

/-
  The walk of frame.Put.
-/
namespace Go.Proofs.YtfmjgkfblejknaaGreat
open Go.RowKit
set_option linter.unusedVariables false
set_option linter.unusedSimpArgs false

/-- the error of Put -/
def putE (kind : Int) (n : Nat) : Nat := if kind < 1 ∨ 100 < kind then 1 else if 60000 < n then 2 else 0
def headB (kind : Int) (n : Nat) : List UInt8 := [byteOf kind, UInt8.ofNat (n / 65536), UInt8.ofNat (n / 256), UInt8.ofNat n]
def frameB (kind : Int) (l : List UInt8) : List UInt8 := sealB (headB kind l.length) ++ sealB l
def putL (bs : List UInt8) (kind : Int) (l : List UInt8) : List UInt8 := if putE kind l.length = 0 then bs ++ frameB kind l else []
theorem frameB_len (kind : Int) (l : List UInt8) : (frameB kind l).length = l.length + 12 := by
  simp [frameB, sealB_len, headB]; omega

set_option maxRecDepth 100000 in
set_option maxHeartbeats 1600000 in
theorem fput_any (A : Option Addr) (n c : Nat) (bs : List UInt8) (kind : Int) (B : Option Addr) (m d : Nat) (l : List UInt8) (w : World) (hr : Rd w w.heap.size 1 A n (bvs bs)) (hb : Rd w w.heap.size 1 B m (bvs l)) (hn : n ≤ 549755813888) (hm : m ≤ 9223372036854775807) :
    Calls Tryz.prog 44 #[.slice A n c, .int .i64 kind, .slice B m d] w fun e w' => ∃ A' n' c', e = .returned (.tuple #[.slice A' n' c', .int .i64 (putE kind l.length : Int)]) ∧ OwnB w' w.heap.size A' n' c' (putL bs kind l) ∧ Up w w' := by
  have nil0 : ∀ w0, OwnB w0 w.heap.size none 0 0 [] := fun w0 => World.ownsRow_nil _ _ _ _
  have NIL := Lib.hid nil0
  clear nil0
  have HM := Lib.hid hb.blen
  have HN := Lib.hid hr.blen
  have bad : ∀ E : Nat, putE kind l.length = E → E ≠ 0 → putL bs kind l = [] := fun E h h' => by unfold putL; rw [if_neg (by rw [h]; exact h')]
  by_cases hk1 : kind < 1
  · have hE : putE kind l.length = 1 := by unfold putE; rw [if_pos (.inl hk1)]
    have hL := bad 1 hE (by omega)
    have HE := Lib.hid hE
    have HO := Lib.hid hL
    clear hE hL bad
    go_enter Tryz.func44, Tryz.ntmps44
    go_wp2_with fail
    go_ret2
    rw [HE.out, HO.out]
    exact ⟨none, 0, 0, rfl, NIL.out _, Up.refl _⟩
  by_cases hk2 : 100 < kind
  · have hE : putE kind l.length = 1 := by unfold putE; rw [if_pos (.inr hk2)]
    have hL := bad 1 hE (by omega)
    have HE := Lib.hid hE
    have HO := Lib.hid hL
    clear hE hL bad
    go_enter Tryz.func44, Tryz.ntmps44
    go_wp2_with fail
    go_ret2
    rw [HE.out, HO.out]
    exact ⟨none, 0, 0, rfl, NIL.out _, Up.refl _⟩
  by_cases hbig : 60000 < m
  · have hE : putE kind l.length = 2 := by unfold putE; rw [if_neg (by omega), if_pos (by rw [← HM.out]; exact hbig)]
    have hL := bad 2 hE (by omega)
    have HE := Lib.hid hE
    have HO := Lib.hid hL
    clear hE hL bad
    go_enter Tryz.func44, Tryz.ntmps44
    go_wp2_with fail
    go_ret2
    rw [HE.out, HO.out]
    exact ⟨none, 0, 0, rfl, NIL.out _, Up.refl _⟩
  · have hE : putE kind l.length = 0 := by unfold putE; rw [if_neg (by omega), if_neg (by rw [← HM.out]; exact hbig)]
    have hL : putL bs kind l = bs ++ (sealB (headB kind m) ++ sealB l) := by unfold putL; rw [hE, if_pos rfl, HM.out]; rfl
    have HE := Lib.hid hE
    have HO := Lib.hid hL
    clear hE hL bad
    go_enter Tryz.func44, Tryz.ntmps44
    go_wp2_with fail
    have hh : ([.int .u8 kind, .int .u8 ((m : Int) / 65536), .int .u8 ((m : Int) / 256), .int .u8 ((m : Int) % 256)] : List Value) = bvs (headB kind m) := by
      have e0 : kind = kind % 256 := by omega
      have e1 : (m : Int) / 65536 = ((m / 65536 % 256 : Nat) : Int) := by omega
      have e2 : (m : Int) / 256 = ((m / 256 % 256 : Nat) : Int) := by omega
      have e3 : (m : Int) % 256 = ((m % 256 : Nat) : Int) := by omega
      simp only [bvs, headB, List.map_cons, List.map_nil, bv_ofNat, bv_byteOf, e1, e2, e3, ← e0]
    refine (seal_any _ 4 4 (headB kind m) _ (Rd.lit_at _ _ _ _ rfl hh) (by omega)).mono ?_
    rintro e w1 ⟨A1, c1, rfl, ho1, hu1⟩
    have hw1 : Up w w1 := ((Up.refl w).alloc _).trans hu1
    go_wp2_with fail
    refine (seal_any B m d l w1 (hb.up hw1) (by omega)).mono ?_
    rintro e w2 ⟨A2, c2, rfl, ho2, hu2⟩
    have hw2 : Up w w2 := hw1.trans hu2
    go_wp2_with fail
    have hq : Rd (w2.alloc (.cells #[.slice A n c, .slice A1 8 c1, .slice A2 (m + 4) c2] 22)) (w2.alloc (.cells #[.slice A n c, .slice A1 8 c1, .slice A2 (m + 4) c2] 22)).heap.size 1 (some ⟨w2.heap.size, 0, none⟩) 3 ([⟨A, n, c, bs⟩, ⟨A1, 8, c1, sealB (headB kind m)⟩, ⟨A2, m + 4, c2, sealB l⟩].map Pt.v) := Rd.made w2 _ _ rfl
    have hl : ptsL [⟨A, n, c, bs⟩, ⟨A1, 8, c1, sealB (headB kind m)⟩, ⟨A2, m + 4, c2, sealB l⟩] = bs ++ (sealB (headB kind m) ++ sealB l) := by simp [ptsL]
    have hll : (bs ++ (sealB (headB kind m) ++ sealB l)).length ≤ 1099511627776 := by
      have := HM.out; have := HN.out
      simp [sealB_len, headB]; omega
    refine (concat_any _ 3 3 _ _ hq ?_ (by rw [hl]; exact hll) (by omega)).mono ?_
    · intro p hp
      simp only [List.mem_cons, List.not_mem_nil, or_false] at hp
      rcases hp with rfl | rfl | rfl
      · exact hr.up (hw2.alloc _)
      · exact (ho1.up (hu2.alloc _)).rd
      · exact (ho2.up ((Up.refl _).alloc _)).rd
    rintro e w3 ⟨A3, c3, rfl, ho3, hu3⟩
    have hw3 : Up w w3 := (hw2.alloc _).trans hu3
    rw [hl] at ho3 ⊢
    clear hl hll hq hh
    generalize (bs ++ (sealB (headB kind m) ++ sealB l)).length = N3 at ho3 ⊢
    have hsz : w.heap.size ≤ (w2.alloc (.cells #[.slice A n c, .slice A1 8 c1, .slice A2 (m + 4) c2] 22)).heap.size := (hw2.alloc _).size
    have ho4 := own_base ho3 hsz
    clear ho3 hsz
    go_wp2_with fail
    go_ret2
    rw [HE.out, HO.out]
    exact ⟨A3, N3, c3, rfl, ho4, hw3⟩
end Go.Proofs.YtfmjgkfblejknaaGreat
