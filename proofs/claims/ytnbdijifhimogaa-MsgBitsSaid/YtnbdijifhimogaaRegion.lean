/-
  A law for regions that draw their order of evaluation: each operation is looked at once, whatever the order. No program is named here.
-/
import Derived.CheckFast
import Derived.Orders
import Derived.RegionTactic
import Derived.Below
import Derived.Deep.Draws
import Derived.Deep.RegionHeld
import Derived.WalkKit
namespace Go.Proofs.Ytnbdijifhimogaa.Rg
open Go Go.CheckFast Go.RowKit
set_option linter.unusedVariables false

/-! ### Which operation comes before which in every order -/
inductive Pre (ops : Array Oper) : Nat → Nat → Prop
  | edge {i : Nat} {o : Oper} {e : Edge} : ops[i]? = some o → e ∈ o.after → Region.binds .any e = true → Pre ops e.on i
  | more {i p : Nat} {o : Oper} {e : Edge} : ops[i]? = some o → e ∈ o.after → Region.binds .any e = true → Pre ops p e.on → Pre ops p i

def masks : List Oper → List Nat → List Nat
  | [], acc => acc
  | o :: rest, acc => force (one (fun i => acc.getD i 0) o) fun v => masks rest (acc ++ [v])
def maskOf (ops : Array Oper) (i p : Nat) : Bool := ((masks ops.toList []).getD i 0).testBit p

theorem one_bit (look : Nat → Nat) (p : Nat) : ∀ (l : List Edge) (s : Nat), (l.foldl (fun s e => if Region.binds .any e then s ||| 2 ^ e.on ||| look e.on else s) s).testBit p = true →
    s.testBit p = true ∨ ∃ e ∈ l, Region.binds .any e = true ∧ (e.on = p ∨ (look e.on).testBit p = true)
  | [], s, h => .inl h
  | e :: l, s, h => by
    rw [List.foldl_cons] at h
    rcases one_bit look p l _ h with h | ⟨e', he', h'⟩
    · split at h
      · rename_i hb
        rw [Nat.testBit_or, Nat.testBit_or, Bool.or_eq_true, Bool.or_eq_true] at h
        rcases h with (h | h) | h
        · exact .inl h
        · rw [Nat.testBit_two_pow] at h
          exact .inr ⟨e, List.mem_cons_self, hb, .inl (by simpa using h)⟩
        · exact .inr ⟨e, List.mem_cons_self, hb, .inr h⟩
      · exact .inl h
    · exact .inr ⟨e', List.mem_cons_of_mem _ he', h'⟩

theorem masks_pre {ops : Array Oper} : ∀ (rest : List Oper) (acc : List Nat), ops.toList.drop acc.length = rest → (∀ i p, (acc.getD i 0).testBit p = true → Pre ops p i) →
    ∀ i p, ((masks rest acc).getD i 0).testBit p = true → Pre ops p i
  | [], acc, _, h => h
  | o :: rest, acc, hr, h => by
    rw [masks, force_eq]
    have hlt : acc.length < ops.toList.length := by
      rcases Nat.lt_or_ge acc.length ops.toList.length with h' | h'
      · exact h'
      · rw [List.drop_eq_nil_of_le h'] at hr; cases hr
    have ho : ops.toList[acc.length]? = some o := by
      have := congrArg List.head? hr
      rwa [List.head?_drop, List.head?_cons] at this
    refine masks_pre rest _ ?_ ?_
    · rw [List.length_append, List.length_singleton, ← List.drop_drop, hr]; rfl
    · intro i p hb
      rw [List.getD_eq_getElem?_getD, List.getElem?_append] at hb
      split at hb
      · exact h i p (by rw [List.getD_eq_getElem?_getD]; exact hb)
      · rename_i hge
        by_cases he : i = acc.length
        · subst he
          rw [Nat.sub_self] at hb
          have hb' : (one (fun i => acc.getD i 0) o).testBit p = true := hb
          unfold one at hb'
          rw [← Array.foldl_toList] at hb'
          rcases one_bit (fun i => acc.getD i 0) p o.after.toList 0 hb' with h0 | ⟨e, hm, hbd, hp⟩
          · simp at h0
          · have hm' : e ∈ o.after := by simpa using hm
            have ho' : ops[acc.length]? = some o := by simpa using ho
            rcases hp with rfl | hp
            · exact .edge ho' hm' hbd
            · exact .more ho' hm' hbd (h _ _ hp)
        · have : ([one (fun i => acc.getD i 0) o] : List Nat)[i - acc.length]? = none := by
            apply List.getElem?_eq_none; simp; omega
          rw [this] at hb; simp at hb

theorem pre_of {ops : Array Oper} {i p : Nat} (h : maskOf ops i p = true) : Pre ops p i :=
  masks_pre ops.toList [] rfl (fun i p h => by simp at h) i p h

/-! ### What is known of the operations that have come up -/
abbrev Vs := Nat → Value
def upd (vs : Vs) (k : Nat) (v : Value) : Vs := fun i => bif Nat.beq i k then v else vs i
theorem upd_same (vs : Vs) (k : Nat) (v : Value) : upd vs k v k = v := by simp [upd]
theorem upd_ne (vs : Vs) {k i : Nat} (v : Value) (h : i ≠ k) : upd vs k v i = vs i := by
  unfold upd
  cases h' : Nat.beq i k
  · rfl
  · exact absurd (Nat.eq_of_beq_eq_true h') h

/-- w' is w with new blocks, and blocks of X written. -/
structure Keeps (X : Nat → Prop) (w w' : World) : Prop where
  os : w'.os = w.os
  tape : w'.tape = w.tape
  output : w'.output = w.output
  size : w.heap.size ≤ w'.heap.size
  block : ∀ k, k < w.heap.size → ¬ X k → w'.heap[k]? = w.heap[k]?
theorem Keeps.refl (X : Nat → Prop) (w : World) : Keeps X w w := ⟨rfl, rfl, rfl, Nat.le_refl _, fun _ _ _ => rfl⟩
theorem Keeps.up {w w' : World} (h : Keeps (fun _ => False) w w') : Below w.heap.size w w' := ⟨h.os, h.tape, h.output, h.size, fun k hk => h.block k hk id⟩
theorem Keeps.of_up {X : Nat → Prop} {w w' : World} (h : Below w.heap.size w w') : Keeps X w w' := ⟨h.os, h.tape, h.output, h.size, fun k hk _ => h.block k hk⟩

/-- the blocks of Y are as they were -/
structure Sta (Y : Nat → Prop) (w w' : World) : Prop where
  size : w.heap.size ≤ w'.heap.size
  block : ∀ g, g < w.heap.size → Y g → w'.heap[g]? = w.heap[g]?

structure Shape where
  idx : Nat
  uses : List Nat
  eats : List Nat
structure Ent where
  idx : Nat
  F : Vs → World → Prop
  own : Vs → Nat → Prop

def Fof : List Ent → Nat → Vs → World → Prop
  | [], _, _, _ => True
  | e :: r, p, vs, w => bif Nat.beq e.idx p then e.F vs w else Fof r p vs w
def Oof : List Ent → Nat → Vs → Nat → Prop
  | [], _, _, _ => False
  | e :: r, p, vs, g => bif Nat.beq e.idx p then e.own vs g else Oof r p vs g

/-- what one operation does at this frame and world: its value and the world behind it meet R -/
def Runs (P : Program) (ops : Array Oper) (o : Oper) (a : Act) (w : World) (R : Value → World → Prop) : Prop :=
  ∀ K : Act → World → Prop, (∀ v w', R v w' → K (a.put o.dst v) w') →
    if Region.wanted o (yielded ops a.tmps) = true then o.wp P a w K (fun _ _ _ => False) else K (a.put o.dst undef) w

def chk (ops : Array Oper) (sh : List Shape) (k : Nat) (uses eats : List Nat) : Bool :=
  uses.all (fun p => (Nat.ble ops.size p || maskOf ops k p) && sh.all fun s => !s.eats.contains p) &&
  eats.all (fun p => uses.contains p && sh.all fun s => !s.uses.contains p || maskOf ops k s.idx)

section
variable (P : Program) (ops : Array Oper) (Q : Exit → Act → World → Prop) (X0 : Nat → Prop) (w0 : World) (S : World → Prop)

inductive ROK : List Oper → Nat → List Shape → List Ent → (Vs → Act) → Prop
  | done {k : Nat} {sh : List Shape} {Γ : List Ent} {b : Vs → Act}
      (h : ∀ vs w, Keeps X0 w0 w → S w → (∀ p, (sh.all fun s => !s.eats.contains p) = true → Fof Γ p vs w) → Q .normal (b vs) w) : ROK [] k sh Γ b
  | val {o : Oper} {rest : List Oper} {k : Nat} {sh : List Shape} {Γ : List Ent} {b : Vs → Act} (v : Value) (uses : List Nat) (hc : chk ops sh k uses [] = true)
      (h : ∀ vs w, Keeps X0 w0 w → S w → (∀ p ∈ uses, Fof Γ p vs w) → Runs P ops o (b vs) w fun v' w' => v' = v ∧ Keeps (fun _ => False) w w')
      (hr : ROK rest (k + 1) (sh ++ [⟨k, uses, []⟩]) Γ (fun vs => (b vs).put o.dst v)) : ROK (o :: rest) k sh Γ b
  | op {o : Oper} {rest : List Oper} {k : Nat} {sh : List Shape} {Γ : List Ent} {b : Vs → Act} (F : Vs → World → Prop) (own : Vs → Nat → Prop) (uses eats : List Nat) (hc : chk ops sh k uses eats = true)
      (hd : ∀ vs vs' : Vs, (∀ i, i = k ∨ maskOf ops k i = true → vs i = vs' i) → F vs = F vs' ∧ own vs = own vs')
      (hs : ∀ vs w w', F vs w → Sta (fun g => (g < w0.heap.size ∧ ¬ X0 g) ∨ own vs g) w w' → F vs w')
      (h : ∀ vs w, Keeps X0 w0 w → S w → (∀ p ∈ uses, Fof Γ p vs w) → Runs P ops o (b vs) w fun v w' =>
        F (upd vs k v) w' ∧ Keeps (fun g => ∃ p ∈ eats, Oof Γ p vs g) w w' ∧ ∀ g, own (upd vs k v) g → g < w'.heap.size ∧ (w.heap.size ≤ g ∨ ∃ p ∈ eats, Oof Γ p vs g))
      (hr : ROK rest (k + 1) (sh ++ [⟨k, uses, eats⟩]) (Γ ++ [⟨k, F, own⟩]) (fun vs => (b vs).put o.dst (vs k))) : ROK (o :: rest) k sh Γ b
end

/-! ### The data behind a proof of ROK -/
inductive OpD where
  | cl (v : Value) (uses : List Nat)
  | opn (F : Vs → World → Prop) (own : Vs → Nat → Prop) (uses eats : List Nat)
def OpD.val : OpD → Nat → Vs → Value
  | .cl v _, _, _ => v
  | .opn _ _ _ _, k, vs => vs k
def OpD.uses : OpD → List Nat
  | .cl _ u => u
  | .opn _ _ u _ => u
def OpD.eats : OpD → List Nat
  | .cl _ _ => []
  | .opn _ _ _ e => e
def OpD.sh (d : OpD) (k : Nat) : Shape := ⟨k, d.uses, d.eats⟩
def OpD.F : OpD → Vs → World → Prop
  | .cl _ _, _, _ => True
  | .opn F _ _ _, vs, w => F vs w
def OpD.own : OpD → Vs → Nat → Prop
  | .cl _ _, _, _ => False
  | .opn _ o _ _, vs, g => o vs g


def ents : List OpD → Nat → List Ent
  | [], _ => []
  | .cl _ _ :: r, k => ents r (k + 1)
  | .opn F own _ _ :: r, k => ⟨k, F, own⟩ :: ents r (k + 1)
def shs : List OpD → Nat → List Shape
  | [], _ => []
  | d :: r, k => d.sh k :: shs r (k + 1)
def dstOf (ops : Array Oper) (k : Nat) : Option Tmp := (ops[k]?).bind (·.dst)
def bGo (ops : Array Oper) (vs : Vs) : List OpD → Nat → Act → Act
  | [], _, a => a
  | d :: r, k, a => bGo ops vs r (k + 1) (a.put (dstOf ops k) (d.val k vs))

theorem ents_append : ∀ (D : List OpD) (E : List OpD) (k : Nat), ents (D ++ E) k = ents D k ++ ents E (k + D.length)
  | [], _, _ => rfl
  | .cl _ _ :: r, E, k => by simp only [List.cons_append, ents, ents_append r E (k + 1), List.length_cons]; rw [Nat.add_right_comm k 1, Nat.add_assoc k]
  | .opn _ _ _ _ :: r, E, k => by simp only [List.cons_append, ents, ents_append r E (k + 1), List.length_cons]; rw [Nat.add_right_comm k 1, Nat.add_assoc k]
theorem shs_append : ∀ (D : List OpD) (E : List OpD) (k : Nat), shs (D ++ E) k = shs D k ++ shs E (k + D.length)
  | [], _, _ => rfl
  | d :: r, E, k => by simp only [List.cons_append, shs, shs_append r E (k + 1), List.length_cons]; rw [Nat.add_right_comm k 1, Nat.add_assoc k]
theorem bGo_append (ops : Array Oper) (vs : Vs) : ∀ (D : List OpD) (E : List OpD) (k : Nat) (a : Act), bGo ops vs (D ++ E) k a = bGo ops vs E (k + D.length) (bGo ops vs D k a)
  | [], _, _, _ => rfl
  | d :: r, E, k, a => by simp only [List.cons_append, bGo, bGo_append ops vs r E (k + 1), List.length_cons]; rw [Nat.add_right_comm k 1, Nat.add_assoc k]

theorem put_size (a : Act) (d : Option Tmp) (v : Value) : (a.put d v).tmps.size = a.tmps.size := by cases d <;> simp [Act.put]
theorem put_defers (a : Act) (d : Option Tmp) (v : Value) : (a.put d v).defers = a.defers := by cases d <;> rfl
theorem put_at (a : Act) (t : Tmp) (v : Value) (h : t < a.tmps.size) : (a.put (some t) v).tmps[t]? = some v := by simp [Act.put, h]
theorem put_other (a : Act) (d : Option Tmp) (t : Tmp) (v : Value) (h : d ≠ some t) : (a.put d v).tmps[t]? = a.tmps[t]? := by
  cases d with
  | none => rfl
  | some e => exact Array.getElem?_setIfInBounds_ne (fun he => h (by rw [he]))
theorem bGo_size (ops : Array Oper) (vs : Vs) : ∀ (D : List OpD) (k : Nat) (a : Act), (bGo ops vs D k a).tmps.size = a.tmps.size
  | [], _, _ => rfl
  | d :: r, k, a => by rw [bGo, bGo_size ops vs r, put_size]
theorem bGo_defers (ops : Array Oper) (vs : Vs) : ∀ (D : List OpD) (k : Nat) (a : Act), (bGo ops vs D k a).defers = a.defers
  | [], _, _ => rfl
  | d :: r, k, a => by rw [bGo, bGo_defers ops vs r, put_defers]
theorem bGo_other (ops : Array Oper) (vs : Vs) (t : Tmp) : ∀ (D : List OpD) (k : Nat) (a : Act), (∀ i, k ≤ i → i < k + D.length → dstOf ops i ≠ some t) → (bGo ops vs D k a).tmps[t]? = a.tmps[t]?
  | [], _, _, _ => rfl
  | d :: r, k, a, h => by
    rw [bGo, bGo_other ops vs t r _ _ (fun i h1 h2 => h i (by omega) (by simp only [List.length_cons]; omega)), put_other _ _ _ _ (h k (Nat.le_refl _) (by simp))]
theorem bGo_at (ops : Array Oper) (vs : Vs) (hdist : ∀ i j t, dstOf ops i = some t → dstOf ops j = some t → i = j) (t : Tmp) (i : Nat) (hi : dstOf ops i = some t) (d : OpD) : ∀ (D : List OpD) (k : Nat) (a : Act), k ≤ i → D[i - k]? = some d → t < a.tmps.size → (bGo ops vs D k a).tmps[t]? = some (d.val i vs)
  | [], k, a, _, h, _ => by simp at h
  | d' :: r, k, a, hk, h, ht => by
    rw [bGo]
    by_cases he : i = k
    · subst he
      rw [Nat.sub_self] at h
      obtain rfl : d' = d := by simpa using h
      rw [bGo_other ops vs t r _ _ (fun j h1 _ hj => by have := hdist _ _ _ hi hj; omega), hi]
      exact put_at _ _ _ ht
    · refine bGo_at ops vs hdist t i hi d r (k + 1) _ (by omega) ?_ (by rw [put_size]; exact ht)
      rw [show i - k = (i - (k + 1)) + 1 by omega] at h
      simpa using h

theorem Fof_append (p : Nat) (vs : Vs) (w : World) : ∀ (Γ Δ : List Ent), Fof (Γ ++ Δ) p vs w → Fof Γ p vs w
  | [], _, _ => trivial
  | e :: r, Δ, h => by
    simp only [List.cons_append, Fof] at h ⊢
    cases hb : Nat.beq e.idx p <;> simp only [hb, cond_true, cond_false] at h ⊢
    · exact Fof_append p vs w r Δ h
    · exact h
theorem Oof_append (p : Nat) (vs : Vs) (g : Nat) : ∀ (Γ Δ : List Ent), Oof Γ p vs g → Oof (Γ ++ Δ) p vs g
  | [], _, h => h.elim
  | e :: r, Δ, h => by
    simp only [List.cons_append, Oof] at h ⊢
    cases hb : Nat.beq e.idx p <;> simp only [hb, cond_true, cond_false] at h ⊢
    · exact Oof_append p vs g r Δ h
    · exact h
theorem Fof_ents (vs : Vs) (w : World) (p : Nat) : ∀ (D : List OpD) (k : Nat), k ≤ p → (Fof (ents D k) p vs w ↔ ∀ d, D[p - k]? = some d → d.F vs w)
  | [], k, _ => by simp [ents, Fof]
  | d :: r, k, hk => by
    by_cases he : p = k
    · subst he
      cases d with
      | cl v u =>
        rw [ents]
        simp only [Nat.sub_self, List.getElem?_cons_zero, Option.some.injEq, forall_eq', OpD.F, iff_true]
        have : ∀ (D : List OpD) (j : Nat), p < j → Fof (ents D j) p vs w := by
          intro D
          induction D with
          | nil => intro j _; trivial
          | cons d r ih =>
            intro j hj
            cases d with
            | cl v u => exact ih _ (by omega)
            | opn F own u e =>
              show (bif Nat.beq j p then F vs w else Fof (ents r (j + 1)) p vs w)
              cases hb : Nat.beq j p
              · exact ih _ (by omega)
              · have := Nat.eq_of_beq_eq_true hb; omega
        exact this r (p + 1) (by omega)
      | opn F own u e =>
        simp [ents, Fof, OpD.F]
    · have hrec := Fof_ents vs w p r (k + 1) (by omega)
      rw [show p - k = (p - (k + 1)) + 1 by omega, List.getElem?_cons_succ, ← hrec]
      cases d with
      | cl v u => rfl
      | opn F own u e =>
        show (bif Nat.beq k p then F vs w else Fof (ents r (k + 1)) p vs w) ↔ _
        cases hb : Nat.beq k p
        · rfl
        · exact absurd (Nat.eq_of_beq_eq_true hb).symm he
theorem Oof_ents (vs : Vs) (g : Nat) (p : Nat) : ∀ (D : List OpD) (k : Nat), k ≤ p → (Oof (ents D k) p vs g ↔ ∃ d, D[p - k]? = some d ∧ d.own vs g)
  | [], k, _ => by simp [ents, Oof]
  | d :: r, k, hk => by
    by_cases he : p = k
    · subst he
      cases d with
      | cl v u =>
        rw [ents]
        simp only [Nat.sub_self, List.getElem?_cons_zero, Option.some.injEq, OpD.own, exists_eq_left', iff_false]
        have : ∀ (D : List OpD) (j : Nat), p < j → ¬ Oof (ents D j) p vs g := by
          intro D
          induction D with
          | nil => intro j _ h; exact h
          | cons d r ih =>
            intro j hj
            cases d with
            | cl v u => exact ih _ (by omega)
            | opn F own u e =>
              show ¬ (bif Nat.beq j p then own vs g else Oof (ents r (j + 1)) p vs g)
              cases hb : Nat.beq j p
              · exact ih _ (by omega)
              · have := Nat.eq_of_beq_eq_true hb; omega
        exact this r (p + 1) (by omega)
      | opn F own u e =>
        simp [ents, Oof, OpD.own]
    · have hrec := Oof_ents vs g p r (k + 1) (by omega)
      rw [show p - k = (p - (k + 1)) + 1 by omega, List.getElem?_cons_succ, ← hrec]
      cases d with
      | cl v u => rfl
      | opn F own u e =>
        show (bif Nat.beq k p then own vs g else Oof (ents r (k + 1)) p vs g) ↔ _
        cases hb : Nat.beq k p
        · rfl
        · exact absurd (Nat.eq_of_beq_eq_true hb).symm he

/-! ### The frame's places that an operation looks at -/
def lookChk (ops : Array Oper) : Bool :=
  (List.range ops.size).all fun i => match ops[i]? with
    | none => true
    | some o => (o.looksAt ops).all fun t => (List.range ops.size).all fun j => !(dstOf ops j == some t) || Nat.beq j i || (Nat.blt j i && maskOf ops i j) || (Nat.blt i j && maskOf ops j i)
def distChk (ops : Array Oper) : Bool :=
  (List.range ops.size).all fun i => (List.range ops.size).all fun j => Nat.beq i j || (match dstOf ops i with | none => true | some t => !(dstOf ops j == some t))
def topoChk (ops : Array Oper) : Bool :=
  (List.range ops.size).all fun i => match ops[i]? with
    | none => true
    | some o => o.after.all fun e => !Region.binds .any e || Nat.blt e.on i
def globChk (ops : Array Oper) : Bool := Region.noSelect ops && lookChk ops && distChk ops && topoChk ops
theorem topo_of {ops : Array Oper} (h : topoChk ops = true) {i : Nat} {o : Oper} (ho : ops[i]? = some o) {e : Edge} (he : e ∈ o.after) (hb : Region.binds .any e = true) : e.on < i := by
  have h1 := List.all_eq_true.1 h i (List.mem_range.2 (Array.getElem?_eq_some_iff.1 ho).1)
  rw [ho] at h1
  have h2 := Array.all_eq_true_iff_forall_mem.1 h1 e he
  simp only [hb, Bool.not_true, Bool.false_or] at h2
  rw [Nat.blt_eq] at h2; exact h2
theorem all_listed {ops : Array Oper} (h : topoChk ops = true) {listed : Array Bool} (hs : listed.size = ops.size) (hr : Region.ready .any ops listed = []) : ∀ i, i < ops.size → listed.getD i false = true := by
  intro i
  induction i using Nat.strongRecOn with
  | _ i ih =>
    intro hi
    cases hl : listed.getD i false
    · exfalso
      have hlt : i < listed.size := by omega
      obtain ⟨o, ho⟩ : ∃ o, ops[i]? = some o := ⟨_, Array.getElem?_eq_getElem hi⟩
      have : i ∈ Region.ready .any ops listed := mem_ready.2 ⟨by simpa [hlt] using hl, o, ho, fun e he hb => by
        have := topo_of h ho he hb
        exact ih _ this (by omega)⟩
      rw [hr] at this; cases this
    · rfl

theorem dstOf_lt {ops : Array Oper} {i : Nat} {t : Tmp} (h : dstOf ops i = some t) : i < ops.size := by
  unfold dstOf at h
  rcases Nat.lt_or_ge i ops.size with h' | h'
  · exact h'
  · rw [Array.getElem?_eq_none h'] at h; cases h
theorem dist_of {ops : Array Oper} (h : distChk ops = true) (i j : Nat) (t : Tmp) (hi : dstOf ops i = some t) (hj : dstOf ops j = some t) : i = j := by
  have h1 := List.all_eq_true.1 (List.all_eq_true.1 h i (List.mem_range.2 (dstOf_lt hi))) j (List.mem_range.2 (dstOf_lt hj))
  rw [hi, hj] at h1
  simpa using h1
theorem look_of {ops : Array Oper} (h : lookChk ops = true) {i : Nat} {o : Oper} (ho : ops[i]? = some o) {t : Tmp} (ht : t ∈ o.looksAt ops) {j : Nat} (hj : dstOf ops j = some t) :
    j = i ∨ (j < i ∧ Pre ops j i) ∨ (i < j ∧ Pre ops i j) := by
  have h1 := List.all_eq_true.1 h i (List.mem_range.2 (Array.getElem?_eq_some_iff.1 ho).1)
  rw [ho] at h1
  have h2 := List.all_eq_true.1 (List.all_eq_true.1 h1 t ht) j (List.mem_range.2 (dstOf_lt hj))
  rw [hj] at h2
  simp only [BEq.rfl, Bool.not_true, Bool.false_or, Bool.or_eq_true, Bool.and_eq_true] at h2
  rcases h2 with (h2 | ⟨h2, h3⟩) | ⟨h2, h3⟩
  · exact .inl (Nat.eq_of_beq_eq_true h2)
  · exact .inr (.inl ⟨(by rw [Nat.blt_eq] at h2; exact h2), pre_of h3⟩)
  · exact .inr (.inr ⟨(by rw [Nat.blt_eq] at h2; exact h2), pre_of h3⟩)

/-! ### One operation at another frame that agrees with the first on what it looks at -/
theorem wp_false {P : Program} {o : Oper} {a : Act} {w : World} {K : Act → World → Prop} {Q : Exit → Act → World → Prop} (h : o.wp P a w K (fun _ _ _ => False)) : o.wp P a w K Q := by
  unfold Oper.wp at *
  generalize (execOp a.eval o).run P w = r at *
  cases r with
  | ok n w' =>
    cases n <;> simp only [Oper.upon] at h ⊢ <;> first
      | exact h
      | exact Calls.mono h (fun e w'' he => by
          cases e with
          | returned v => exact he
          | panicked c => exact he.elim
          | outgrown => obtain ⟨_, _, h⟩ := he; exact h.elim)
  | halt x w' => cases x <;> simp only [Oper.upon] at h ⊢

theorem put_same {a b : Act} (hs : a.tmps.size = b.tmps.size) {d : Option Tmp} {v u : Value} (h : b.put d v = b.put d u) : a.put d v = a.put d u := by
  cases d with
  | none => rfl
  | some t =>
    by_cases ht : t < a.tmps.size
    · have ht' : t < b.tmps.size := by rw [← hs]; exact ht
      have e1 := put_at b t v ht'
      rw [h, put_at b t u ht'] at e1
      injection e1 with e1
      rw [e1]
    · have h0 : ∀ x : Value, a.tmps.setIfInBounds t x = a.tmps := fun x => by rw [Array.setIfInBounds]; simp [ht]
      simp only [Act.put, h0]

theorem wp_move {P : Program} {o : Oper} {a b : Act} {w : World} {R : Value → World → Prop} (hs : a.tmps.size = b.tmps.size) (he : execOp a.eval o = execOp b.eval o)
    (h : o.wp P b w (fun a' w' => ∃ v, a' = b.put o.dst v ∧ R v w') (fun _ _ _ => False)) : o.wp P a w (fun a' w' => ∃ v, a' = a.put o.dst v ∧ R v w') (fun _ _ _ => False) := by
  unfold Oper.wp at *
  rw [he]
  generalize (execOp b.eval o).run P w = r at *
  cases r with
  | ok n w' =>
    cases n <;> simp only [Oper.upon] at h ⊢
    case value v => obtain ⟨u, hu, hR⟩ := h; exact ⟨u, put_same hs hu, hR⟩
    case skip => obtain ⟨u, hu, hR⟩ := h; exact ⟨u, put_same hs hu, hR⟩
    case defer d =>
      obtain ⟨u, hu, hR⟩ := h
      exfalso
      have h1 := congrArg (fun a : Act => a.defers.length) hu
      simp [put_defers] at h1
    case enter f args =>
      refine Calls.mono h fun e w'' he => ?_
      cases e with
      | returned v => obtain ⟨u, hu, hR⟩ := he; exact ⟨u, put_same hs hu, hR⟩
      | panicked c => exact he
      | outgrown => obtain ⟨_, _, h⟩ := he; exact h.elim
    case row row args => exact Rows.mono h fun v w'' ⟨u, hu, hR⟩ => ⟨u, put_same hs hu, hR⟩
  | halt x w' => cases x <;> simp only [Oper.upon] at h ⊢

theorem eval_agree {a b : Act} {x : Operand} (h : ∀ t, x = .tmp t → a.tmps[t]? = b.tmps[t]?) : a.eval x = b.eval x := by
  cases x with
  | tmp t =>
    have := h t rfl
    simp only [Act.eval, Array.getD_eq_getD_getElem?, this]
  | _ => rfl
theorem exec_agree {ops : Array Oper} {o : Oper} (hs : ∀ cs b, o.op ≠ .select cs b) {a b : Act} (h : ∀ t, t ∈ o.looksAt ops → a.tmps[t]? = b.tmps[t]?) : execOp a.eval o = execOp b.eval o :=
  execOp_congr o hs fun x hx => eval_agree fun t ht => h t (by
    subst ht
    exact List.mem_append_left _ (List.mem_filterMap.2 ⟨.tmp t, by simpa using hx, rfl⟩))
theorem wanted_agree {ops : Array Oper} {o : Oper} {a b : Act} (h : ∀ t, t ∈ o.looksAt ops → a.tmps[t]? = b.tmps[t]?) : Region.wanted o (yielded ops a.tmps) = Region.wanted o (yielded ops b.tmps) := by
  unfold Region.wanted
  cases hg : o.guard with
  | none => rfl
  | some gw =>
    obtain ⟨g, want⟩ := gw
    have hy : yielded ops a.tmps g = yielded ops b.tmps g := by
      unfold yielded
      cases ht : (ops[g]?).bind (·.dst) with
      | none => rfl
      | some t =>
        have := h t (by simp [Oper.looksAt, hg, ht])
        simp only [Option.bind_some, this]
    simp only [hy]

/-! ### The law -/
/-- what is asked of operation k, those before it being D -/
def Asked (P : Program) (ops : Array Oper) (X0 : Nat → Prop) (w0 : World) (S : World → Prop) (a0 : Act) (G0 : Ent) (D : List OpD) (k : Nat) (o : Oper) : OpD → Prop
  | .cl v uses => chk ops (shs D 0) k uses [] = true ∧ ∀ vs w, Keeps X0 w0 w → S w → (∀ p ∈ uses, Fof (G0 :: ents D 0) p vs w) →
      Runs P ops o (bGo ops vs D 0 a0) w fun v' w' => v' = v ∧ Keeps (fun _ => False) w w'
  | .opn F own uses eats => chk ops (shs D 0) k uses eats = true ∧
      (∀ vs vs' : Vs, (∀ i, i = k ∨ maskOf ops k i = true → vs i = vs' i) → F vs = F vs' ∧ own vs = own vs') ∧
      (∀ vs w w', F vs w → Sta (fun g => (g < w0.heap.size ∧ ¬ X0 g) ∨ own vs g) w w' → F vs w') ∧
      ∀ vs w, Keeps X0 w0 w → S w → (∀ p ∈ uses, Fof (G0 :: ents D 0) p vs w) → Runs P ops o (bGo ops vs D 0 a0) w fun v w' =>
        F (upd vs k v) w' ∧ Keeps (fun g => ∃ p ∈ eats, Oof (G0 :: ents D 0) p vs g) w w' ∧ ∀ g, own (upd vs k v) g → g < w'.heap.size ∧ (w.heap.size ≤ g ∨ ∃ p ∈ eats, Oof (G0 :: ents D 0) p vs g)

section
variable {P : Program} {ops : Array Oper} {Q : Exit → Act → World → Prop} {X0 : Nat → Prop} {w0 : World} {S : World → Prop}

theorem ROK.data {a0 : Act} {G0 : Ent} {rest : List Oper} {k : Nat} {sh : List Shape} {Γ : List Ent} {b : Vs → Act} (h : ROK P ops Q X0 w0 S rest k sh Γ b) :
    ∀ D : List OpD, D.length = k → k ≤ ops.size → sh = shs D 0 → Γ = G0 :: ents D 0 → (∀ vs, b vs = bGo ops vs D 0 a0) → ops.toList.drop k = rest →
    ∃ E : List OpD, (D ++ E).length = ops.size ∧ (∀ j o d, E[j]? = some d → ops[k + j]? = some o → Asked P ops X0 w0 S a0 G0 (D ++ E.take j) (k + j) o d) ∧
      ∀ vs w, Keeps X0 w0 w → S w → (∀ p, ((shs (D ++ E) 0).all fun s => !s.eats.contains p) = true → Fof (G0 :: ents (D ++ E) 0) p vs w) → Q .normal (bGo ops vs (D ++ E) 0 a0) w := by
  have go : ∀ (o : Oper) (rest : List Oper) (D : List OpD) (d : OpD) (b : Vs → Act), ops.toList.drop D.length = o :: rest → (∀ vs, b vs = bGo ops vs D 0 a0) → Asked P ops X0 w0 S a0 G0 D D.length o d →
      (∀ D', D' = D ++ [d] → (∀ vs, (b vs).put o.dst (d.val D.length vs) = bGo ops vs D' 0 a0) → D.length + 1 ≤ ops.size → ops.toList.drop (D.length + 1) = rest → ∃ E : List OpD, (D' ++ E).length = ops.size ∧ (∀ j o d, E[j]? = some d → ops[D.length + 1 + j]? = some o → Asked P ops X0 w0 S a0 G0 (D' ++ E.take j) (D.length + 1 + j) o d) ∧
        ∀ vs w, Keeps X0 w0 w → S w → (∀ p, ((shs (D' ++ E) 0).all fun s => !s.eats.contains p) = true → Fof (G0 :: ents (D' ++ E) 0) p vs w) → Q .normal (bGo ops vs (D' ++ E) 0 a0) w) →
      ∃ E : List OpD, (D ++ E).length = ops.size ∧ (∀ j o d, E[j]? = some d → ops[D.length + j]? = some o → Asked P ops X0 w0 S a0 G0 (D ++ E.take j) (D.length + j) o d) ∧
        ∀ vs w, Keeps X0 w0 w → S w → (∀ p, ((shs (D ++ E) 0).all fun s => !s.eats.contains p) = true → Fof (G0 :: ents (D ++ E) 0) p vs w) → Q .normal (bGo ops vs (D ++ E) 0 a0) w := by
    intro o rest D d b hr hb hA ih
    have ho : ops.toList[D.length]? = some o := by
      have := congrArg List.head? hr
      rwa [List.head?_drop, List.head?_cons] at this
    have ho' : ops[D.length]? = some o := by simpa using ho
    obtain ⟨E, h1, h2, h3⟩ := ih _ rfl (fun vs => by
        rw [bGo_append, ← hb, Nat.zero_add]
        show _ = (b vs).put (dstOf ops D.length) _
        rw [dstOf, ho']
        rfl) (Array.getElem?_eq_some_iff.1 ho').1 (by rw [← List.drop_drop, hr]; rfl)
    refine ⟨d :: E, by simpa using h1, fun j o' d' hj hoj => ?_, ?_⟩
    · cases j with
      | zero =>
        obtain rfl : d = d' := by simpa using hj
        rw [Nat.add_zero] at hoj ⊢
        rw [ho'] at hoj
        injection hoj with hoj
        subst hoj
        rw [List.take_zero, List.append_nil]
        exact hA
      | succ j =>
        have := h2 j o' d' (by simpa using hj) (by rw [← hoj]; congr 1; omega)
        rw [List.take_succ_cons]
        rw [show D.length + (j + 1) = D.length + 1 + j by omega]
        rwa [List.append_assoc] at this
    · intro vs w hk hS hF
      have e : D ++ d :: E = D ++ [d] ++ E := by rw [List.append_assoc]; rfl
      rw [e] at hF ⊢
      exact h3 vs w hk hS hF
  induction h with
  | done h =>
    rintro D rfl hkl rfl rfl hb hr
    refine ⟨[], ?_, fun j o d hj => by simp at hj, fun vs w hk hS hF => ?_⟩
    · have h1 : ops.toList.length ≤ D.length := List.drop_eq_nil_iff.1 hr
      rw [Array.length_toList] at h1
      rw [List.append_nil]; omega
    · rw [List.append_nil] at hF ⊢
      rw [← hb]
      exact h vs w hk hS hF
  | @val o rest k sh Γ b v uses hc h hr ih =>
    rintro D rfl hkl rfl rfl hb hrest
    refine go o rest D (.cl v uses) b hrest hb ⟨hc, fun vs w hk hS hF => ?_⟩ ?_
    · rw [← hb]; exact h vs w hk hS hF
    · rintro D' rfl hb' hle hr'
      exact ih (D ++ [OpD.cl v uses]) (by simp) hle (by rw [shs_append, Nat.zero_add]; rfl) (by rw [ents_append]; simp [ents]) (fun vs => hb' vs) hr'
  | @op o rest k sh Γ b F own uses eats hc hd hs h hr ih =>
    rintro D rfl hkl rfl rfl hb hrest
    refine go o rest D (.opn F own uses eats) b hrest hb ⟨hc, hd, hs, fun vs w hk hS hF => ?_⟩ ?_
    · rw [← hb]; exact h vs w hk hS hF
    · rintro D' rfl hb' hle hr'
      exact ih (D ++ [OpD.opn F own uses eats]) (by simp) hle (by rw [shs_append, Nat.zero_add]; rfl) (by rw [ents_append]; simp [ents]) (fun vs => hb' vs) hr'

theorem chk_use {sh : List Shape} {k p : Nat} {uses eats : List Nat} (h : chk ops sh k uses eats = true) (hp : p ∈ uses) : (ops.size ≤ p ∨ Pre ops p k) ∧ ∀ s ∈ sh, p ∉ s.eats := by
  simp only [chk, Bool.and_eq_true, List.all_eq_true] at h
  have h1 := h.1 p hp
  simp only [Bool.or_eq_true] at h1
  refine ⟨h1.1.imp (fun h => Nat.le_of_ble_eq_true h) pre_of, fun s hs hm => ?_⟩
  have := h1.2 s hs
  simp [hm] at this
theorem chk_eat {sh : List Shape} {k p : Nat} {uses eats : List Nat} (h : chk ops sh k uses eats = true) (hp : p ∈ eats) : p ∈ uses ∧ ∀ s ∈ sh, p ∈ s.uses → Pre ops s.idx k := by
  simp only [chk, Bool.and_eq_true, List.all_eq_true] at h
  have h1 := h.2 p hp
  refine ⟨by simpa using h1.1, fun s hs hm => ?_⟩
  have := h1.2 s hs
  simp only [Bool.or_eq_true, Bool.not_eq_true'] at this
  rcases this with h' | h'
  · rw [List.contains_eq_mem] at h'; simp [hm] at h'
  · exact pre_of h'
theorem mem_shs {s : Shape} : ∀ (D : List OpD) (k : Nat), s ∈ shs D k ↔ ∃ (j : Nat) (d : OpD), D[j]? = some d ∧ s = d.sh (k + j)
  | [], k => by simp [shs]
  | d :: r, k => by
    rw [shs, List.mem_cons, mem_shs r (k + 1)]
    constructor
    · rintro (rfl | ⟨j, d', hj, rfl⟩)
      · exact ⟨0, d, rfl, rfl⟩
      · exact ⟨j + 1, d', by simpa using hj, by rw [Nat.add_assoc k 1 j, Nat.add_comm 1 j]⟩
    · rintro ⟨j, d', hj, rfl⟩
      cases j with
      | zero => left; simp at hj; rw [hj]; rfl
      | succ j => right; exact ⟨j, d', by simpa using hj, by rw [Nat.add_assoc k 1 j, Nat.add_comm 1 j]⟩

section
variable {a0 : Act} {F0 : World → Prop}

def G0 (ops : Array Oper) (X0 : Nat → Prop) (F0 : World → Prop) : Ent := ⟨ops.size, fun _ => F0, fun _ => X0⟩
/-- what is known of number p, if D is all -/
def FF (ops : Array Oper) (F0 : World → Prop) (D : List OpD) (p : Nat) (vs : Vs) (w : World) : Prop := if p = ops.size then F0 w else ∀ d, D[p]? = some d → d.F vs w
def OO (ops : Array Oper) (X0 : Nat → Prop) (D : List OpD) (p : Nat) (vs : Vs) (g : Nat) : Prop := if p = ops.size then X0 g else ∃ d, D[p]? = some d ∧ d.own vs g
theorem Fof_G0 (D : List OpD) (p : Nat) (vs : Vs) (w : World) : Fof (G0 ops X0 F0 :: ents D 0) p vs w ↔ FF ops F0 D p vs w := by
  unfold FF
  show (bif Nat.beq ops.size p then F0 w else Fof (ents D 0) p vs w) ↔ _
  cases hb : Nat.beq ops.size p
  · rw [if_neg (fun e => by rw [e, Nat.beq_refl] at hb; cases hb)]
    simpa using Fof_ents vs w p D 0 (Nat.zero_le _)
  · rw [if_pos (Nat.eq_of_beq_eq_true hb).symm]; rfl
theorem Oof_G0 (D : List OpD) (p : Nat) (vs : Vs) (g : Nat) : Oof (G0 ops X0 F0 :: ents D 0) p vs g ↔ OO ops X0 D p vs g := by
  unfold OO
  show (bif Nat.beq ops.size p then X0 g else Oof (ents D 0) p vs g) ↔ _
  cases hb : Nat.beq ops.size p
  · rw [if_neg (fun e => by rw [e, Nat.beq_refl] at hb; cases hb)]
    simpa using Oof_ents vs g p D 0 (Nat.zero_le _)
  · rw [if_pos (Nat.eq_of_beq_eq_true hb).symm]; rfl

structure Inv (ops : Array Oper) (X0 : Nat → Prop) (w0 : World) (a0 : Act) (F0 : World → Prop) (D : List OpD) (listed : Array Bool) (a : Act) (w : World) (vs : Vs) : Prop where
  size : listed.size = ops.size
  down : ∀ i p, listed.getD i false = true → Pre ops p i → listed.getD p false = true
  keeps : Keeps X0 w0 w
  defers : a.defers = a0.defers
  tsize : a.tmps.size = a0.tmps.size
  slot : ∀ i t d, listed.getD i false = true → dstOf ops i = some t → t < a0.tmps.size → D[i]? = some d → a.tmps[t]? = some (d.val i vs)
  other : ∀ t, (∀ i, listed.getD i false = true → dstOf ops i ≠ some t) → a.tmps[t]? = a0.tmps[t]?
  fact : ∀ p, (ops.size ≤ p ∨ listed.getD p false = true) → (∀ j d, D[j]? = some d → p ∈ d.eats → listed.getD j false = false) →
    FF ops F0 D p vs w ∧ ∀ g, OO ops X0 D p vs g → g < w.heap.size ∧ ¬ (g < w0.heap.size ∧ ¬ X0 g)
  disj : ∀ p q, (ops.size ≤ p ∨ listed.getD p false = true) → (∀ j d, D[j]? = some d → p ∈ d.eats → listed.getD j false = false) →
    (ops.size ≤ q ∨ listed.getD q false = true) → (∀ j d, D[j]? = some d → q ∈ d.eats → listed.getD j false = false) → p ≠ q → ∀ g, OO ops X0 D p vs g → ¬ OO ops X0 D q vs g

theorem listed_set {listed : Array Bool} {i j : Nat} (h : (listed.setIfInBounds i true).getD j false = true) : j = i ∨ listed.getD j false = true := by
  by_cases hij : i = j
  · exact .inl hij.symm
  · rw [getD_set_ne false hij] at h; exact .inr h
theorem listed_keep {listed : Array Bool} {i j : Nat} (h : (listed.setIfInBounds i true).getD j false = false) : listed.getD j false = false := by
  cases hj : listed.getD j false
  · rfl
  · rw [getD_set_true hj] at h; exact h
theorem take_get {D : List OpD} {i j : Nat} {d : OpD} (h : (D.take i)[j]? = some d) : j < i ∧ D[j]? = some d := by
  rw [List.getElem?_take] at h
  split at h
  · exact ⟨‹_›, h⟩
  · cases h

theorem Inv.step {D : List OpD} (hg : globChk ops = true) (hX : ∀ g, X0 g → g < w0.heap.size) (hF0 : ∀ w w', F0 w → Sta (fun g => (g < w0.heap.size ∧ ¬ X0 g) ∨ X0 g) w w' → F0 w') (hS : ∀ w, Keeps X0 w0 w → S w)
    (hD : D.length = ops.size) (hA : ∀ j o d, D[j]? = some d → ops[j]? = some o → Asked P ops X0 w0 S a0 (G0 ops X0 F0) (D.take j) j o d)
    {listed : Array Bool} {a : Act} {w : World} {vs : Vs} (hI : Inv ops X0 w0 a0 F0 D listed a w vs) {i : Nat} (hi : i ∈ Region.ready .any ops listed) :
    wpOp P ops Q i (fun a' w' => ∃ vs', Inv ops X0 w0 a0 F0 D (listed.setIfInBounds i true) a' w' vs') a w := by
  simp only [globChk, Bool.and_eq_true] at hg
  obtain ⟨⟨⟨hsel, hlook⟩, hdist⟩, htopo⟩ := hg
  obtain ⟨hun, o, ho, hafter⟩ := mem_ready.1 hi
  have hilt : i < ops.size := (Array.getElem?_eq_some_iff.1 ho).1
  have hun' : listed.getD i false = false := by
    have : i < listed.size := by rw [hI.size]; exact hilt
    simp only [Array.getD_eq_getD_getElem?, Array.getElem?_eq_getElem this] at hun ⊢
    exact hun
  have hpre : ∀ p, Pre ops p i → listed.getD p false = true := by
    intro p hp
    cases hp with
    | edge ho' he hb => rw [ho] at ho'; injection ho' with ho'; subst ho'; exact hafter _ he hb
    | more ho' he hb hp => rw [ho] at ho'; injection ho' with ho'; subst ho'; exact hI.down _ _ (hafter _ he hb) hp
  obtain ⟨d, hd⟩ : ∃ d, D[i]? = some d := ⟨_, List.getElem?_eq_getElem (by rw [hD]; exact hilt)⟩
  have hask := hA i o d hd ho
  have hdst : dstOf ops i = o.dst := by rw [dstOf, ho]; rfl
  -- the frame at hand agrees with the one that was asked about
  have hagree : ∀ t, t ∈ o.looksAt ops → a.tmps[t]? = (bGo ops vs (D.take i) 0 a0).tmps[t]? := by
    intro t ht
    by_cases hex : ∃ j, dstOf ops j = some t
    · obtain ⟨j, hj⟩ := hex
      have notI : ∀ j', dstOf ops j' = some t → j' = j := fun j' h => dist_of hdist _ _ _ h hj
      have later : listed.getD j false = false → i ≤ j → a.tmps[t]? = (bGo ops vs (D.take i) 0 a0).tmps[t]? := fun hl hij => by
        rw [hI.other t (fun j' h1 h2 => by rw [notI j' h2, hl] at h1; cases h1), bGo_other ops vs t _ _ _ (fun j' _ h2 h3 => by
          have := notI j' h3
          rw [List.length_take] at h2
          omega)]
      rcases look_of hlook ho ht hj with rfl | ⟨hlt, hp⟩ | ⟨hlt, hp⟩
      · exact later hun' (Nat.le_refl _)
      · obtain ⟨dj, hdj⟩ : ∃ d, D[j]? = some d := ⟨_, List.getElem?_eq_getElem (by rw [hD]; omega)⟩
        by_cases hts : t < a0.tmps.size
        · rw [hI.slot j t dj (hpre _ hp) hj hts hdj]
          rw [bGo_at ops vs (fun i j t => dist_of hdist i j t) t j hj dj (D.take i) 0 a0 (Nat.zero_le _) (by rw [Nat.sub_zero, List.getElem?_take, if_pos hlt, hdj]) hts]
        · have hts' : a0.tmps.size ≤ t := Nat.le_of_not_lt hts
          rw [Array.getElem?_eq_none (by rw [hI.tsize]; exact hts'), Array.getElem?_eq_none (by rw [bGo_size]; exact hts')]
      · refine later ?_ (by omega)
        cases hl : listed.getD j false
        · rfl
        · have := hI.down _ _ hl hp
          rw [hun'] at this; cases this
    · rw [hI.other t (fun j h1 h2 => hex ⟨j, h2⟩), bGo_other ops vs t _ _ _ (fun j _ _ h3 => hex ⟨j, h3⟩)]
  have hsize : a.tmps.size = (bGo ops vs (D.take i) 0 a0).tmps.size := by rw [bGo_size, hI.tsize]
  have hexec : execOp a.eval o = execOp (bGo ops vs (D.take i) 0 a0).eval o := exec_agree (fun cs b => Region.noSelect_spec hsel i o cs b ho) hagree
  have hwant := wanted_agree hagree
  -- who is asked about is alive
  have halive : ∀ uses eats, chk ops (shs (D.take i) 0) i uses eats = true → d.uses = uses → ∀ p ∈ uses, (ops.size ≤ p ∨ listed.getD p false = true) ∧ (∀ j dj, D[j]? = some dj → p ∈ dj.eats → listed.getD j false = false) := by
    intro uses eats hc hu p hp
    obtain ⟨h1, h2⟩ := chk_use hc hp
    refine ⟨h1.imp id (hpre p), fun j dj hj hm => ?_⟩
    rcases Nat.lt_trichotomy j i with hlt | rfl | hlt
    · exact absurd hm (h2 (dj.sh (0 + j)) ((mem_shs _ _).2 ⟨j, dj, by rw [List.getElem?_take, if_pos hlt, hj], rfl⟩))
    · exact hun'
    · obtain ⟨oj, hoj⟩ : ∃ oj, ops[j]? = some oj := ⟨_, Array.getElem?_eq_getElem (by have := (List.getElem?_eq_some_iff.1 hj).1; omega)⟩
      have hcj : ∃ u, chk ops (shs (D.take j) 0) j u dj.eats = true := by
        have := hA j oj dj hj hoj
        cases dj with
        | cl v u => exact ⟨u, this.1⟩
        | opn F own u e => exact ⟨u, this.1⟩
      obtain ⟨u, hcj⟩ := hcj
      have h3 := (chk_eat hcj hm).2 (d.sh (0 + i)) ((mem_shs _ _).2 ⟨i, d, by rw [List.getElem?_take, if_pos hlt, hd], rfl⟩) (by show p ∈ d.uses; rw [hu]; exact hp)
      have h3' : Pre ops i j := by have e : (d.sh (0 + i)).idx = i := Nat.zero_add i; rwa [e] at h3
      cases hl : listed.getD j false
      · rfl
      · have := hI.down _ _ hl h3'
        rw [hun'] at this; cases this
  have hfull : ∀ (p : Nat) (vs : Vs) (w : World), FF ops F0 D p vs w → Fof (G0 ops X0 F0 :: ents (D.take i) 0) p vs w := fun p vs w h => by
    have := (Fof_G0 (X0 := X0) D p vs w).2 h
    have e : ents D 0 = ents (D.take i) 0 ++ ents (D.drop i) (0 + (D.take i).length) := by rw [← ents_append, List.take_append_drop]
    rw [e, ← List.cons_append] at this
    exact Fof_append _ _ _ _ _ this
  have hfullO : ∀ (p : Nat) (vs : Vs) (g : Nat), Oof (G0 ops X0 F0 :: ents (D.take i) 0) p vs g → OO ops X0 D p vs g := fun p vs g h => by
    rw [← Oof_G0 (F0 := F0)]
    have e : ents D 0 = ents (D.take i) 0 ++ ents (D.drop i) (0 + (D.take i).length) := by rw [← ents_append, List.take_append_drop]
    rw [e, ← List.cons_append]
    exact Oof_append _ _ _ _ _ h
  -- other facts do not look at what i leaves
  have hdepF : ∀ v p, p ≠ i → (ops.size ≤ p ∨ listed.getD p false = true) → ∀ w, FF ops F0 D p vs w → FF ops F0 D p (upd vs i v) w := by
    intro v p hpi hpl w h
    unfold FF at h ⊢
    split
    · rename_i e; rw [if_pos e] at h; exact h
    · rename_i e
      rw [if_neg e] at h
      intro dp hdp
      have hplt : p < ops.size := by have := (List.getElem?_eq_some_iff.1 hdp).1; omega
      have hl := hpl.resolve_left (by omega)
      have h1 := h dp hdp
      cases dp with
      | cl v u => trivial
      | opn F own u e =>
        have hq := (hA p _ _ hdp (Array.getElem?_eq_getElem hplt)).2.1 vs (upd vs i v) (fun j hj => (upd_ne vs v (by
          rintro rfl
          rcases hj with rfl | hj
          · exact hpi rfl
          · have := hI.down _ _ hl (pre_of hj); rw [hun'] at this; cases this)).symm)
        show F (upd vs i v) w
        rw [← hq.1]; exact h1
  have hdepO : ∀ v p, p ≠ i → (ops.size ≤ p ∨ listed.getD p false = true) → ∀ g, OO ops X0 D p (upd vs i v) g → OO ops X0 D p vs g := by
    intro v p hpi hpl g h
    unfold OO at h ⊢
    split
    · rename_i e; rw [if_pos e] at h; exact h
    · rename_i e
      rw [if_neg e] at h
      obtain ⟨dp, hdp, h1⟩ := h
      have hplt : p < ops.size := by have := (List.getElem?_eq_some_iff.1 hdp).1; omega
      have hl := hpl.resolve_left (by omega)
      refine ⟨dp, hdp, ?_⟩
      cases dp with
      | cl v u => exact h1
      | opn F own u e =>
        have hq := (hA p _ _ hdp (Array.getElem?_eq_getElem hplt)).2.1 vs (upd vs i v) (fun j hj => (upd_ne vs v (by
          rintro rfl
          rcases hj with rfl | hj
          · exact hpi rfl
          · have := hI.down _ _ hl (pre_of hj); rw [hun'] at this; cases this)).symm)
        show own vs g
        rw [hq.2]; exact h1
  -- what is behind the operation
  have hafterI : ∀ v w', d.val i (upd vs i v) = v → (d.F (upd vs i v) w') → (∀ p ∈ d.eats, p ∈ d.uses) → (∀ p ∈ d.uses, (ops.size ≤ p ∨ listed.getD p false = true) ∧ (∀ j dj, D[j]? = some dj → p ∈ dj.eats → listed.getD j false = false)) →
      Keeps (fun g => ∃ p ∈ d.eats, OO ops X0 D p vs g) w w' → (∀ g, d.own (upd vs i v) g → g < w'.heap.size ∧ (w.heap.size ≤ g ∨ ∃ p ∈ d.eats, OO ops X0 D p vs g)) →
      ∃ vs', Inv ops X0 w0 a0 F0 D (listed.setIfInBounds i true) (a.put o.dst v) w' vs' := by
    intro v w' hval hF heu hal hK hown
    have hnE : ∀ g, (g < w0.heap.size ∧ ¬ X0 g) → ¬ ∃ p ∈ d.eats, OO ops X0 D p vs g := fun g hold ⟨p, hp, hg⟩ => by
      have := hal p (heu p hp)
      exact ((hI.fact p this.1 this.2).2 g hg).2 hold
    have hsz0 : w0.heap.size ≤ w.heap.size := hI.keeps.size
    have live' : ∀ p, (∀ j dj, D[j]? = some dj → p ∈ dj.eats → (listed.setIfInBounds i true).getD j false = false) → (∀ j dj, D[j]? = some dj → p ∈ dj.eats → listed.getD j false = false) ∧ p ∉ d.eats := fun p h => by
      refine ⟨fun j dj hj hm => listed_keep (h j dj hj hm), fun hm => ?_⟩
      have := h i d hd hm
      have hlt : i < listed.size := by rw [hI.size]; exact hilt
      simp [hlt] at this
    refine ⟨upd vs i v, ⟨by simpa using hI.size, ?_, ?_, by rw [put_defers]; exact hI.defers, by rw [put_size]; exact hI.tsize, ?_, ?_, ?_, ?_⟩⟩
    · intro j p hj hp
      rcases listed_set hj with rfl | hj
      · exact getD_set_true (hpre p hp)
      · exact getD_set_true (hI.down _ _ hj hp)
    · refine ⟨hK.os.trans hI.keeps.os, hK.tape.trans hI.keeps.tape, hK.output.trans hI.keeps.output, Nat.le_trans hsz0 hK.size, fun g hgl hgx => ?_⟩
      rw [hK.block g (by omega) (hnE g ⟨hgl, hgx⟩), hI.keeps.block g hgl hgx]
    · intro j t dj hj hjt hts hdj
      by_cases hji : j = i
      · subst hji
        rw [hd] at hdj; injection hdj with hdj; subst hdj
        rw [← hdst, hjt, put_at _ _ _ (by rw [hI.tsize]; exact hts), hval]
      · rcases listed_set hj with rfl | hj
        · exact absurd rfl hji
        · rw [put_other _ _ _ _ (fun e => hji (dist_of hdist j i t hjt (by rw [hdst, e]))), hI.slot j t dj hj hjt hts hdj]
          cases dj with
          | cl v u => rfl
          | opn F own u e => show some (vs j) = some (upd vs i v j); rw [upd_ne vs v hji]
    · intro t ht
      have hti : o.dst ≠ some t := by
        rw [← hdst]
        exact ht i (by
          have hlt : i < listed.size := by rw [hI.size]; exact hilt
          simp [hlt])
      rw [put_other _ _ _ _ hti, hI.other t (fun j hj => ht j (getD_set_true hj))]
    · intro p hpl hplive
      obtain ⟨hlv, hne⟩ := live' p hplive
      by_cases hpi : p = i
      · subst hpi
        have hpn : ¬ p = ops.size := by omega
        constructor
        · unfold FF; rw [if_neg hpn]; intro dp hdp; rw [hd] at hdp; injection hdp with hdp; subst hdp; exact hF
        · intro g hg
          unfold OO at hg; rw [if_neg hpn] at hg
          obtain ⟨dp, hdp, hg⟩ := hg
          rw [hd] at hdp; injection hdp with hdp; subst hdp
          obtain ⟨h1, h2⟩ := hown g hg
          refine ⟨h1, ?_⟩
          rcases h2 with h2 | ⟨q, hq, h2⟩
          · rintro ⟨h3, _⟩; omega
          · exact fun hold => hnE g hold ⟨q, hq, h2⟩
      · have hpl' : ops.size ≤ p ∨ listed.getD p false = true := hpl.imp id fun h => (listed_set h).resolve_left hpi
        obtain ⟨hfp, hop⟩ := hI.fact p hpl' hlv
        have hsame : ∀ g, g < w.heap.size → ((g < w0.heap.size ∧ ¬ X0 g) ∨ OO ops X0 D p vs g) → w'.heap[g]? = w.heap[g]? := fun g hgl hgo => hK.block g hgl (by
          rcases hgo with hgo | hgo
          · exact hnE g hgo
          · rintro ⟨q, hq, hq2⟩
            have hqa := hal q (heu q hq)
            have hpq : p ≠ q := by rintro rfl; exact hne hq
            exact hI.disj p q hpl' hlv hqa.1 hqa.2 hpq g hgo hq2)
        constructor
        · have h1 := hdepF v p hpi hpl' w hfp
          unfold FF at h1 ⊢
          split
          · rename_i e
            rw [if_pos e] at h1
            exact hF0 _ _ h1 ⟨hK.size, fun g hgl hgo => hsame g hgl (by
              rcases hgo with hgo | hgo
              · exact .inl hgo
              · exact .inr (by unfold OO; rw [if_pos e]; exact hgo))⟩
          · rename_i e
            rw [if_neg e] at h1
            intro dp hdp
            have hplt : p < ops.size := by have := (List.getElem?_eq_some_iff.1 hdp).1; omega
            have h2 := h1 dp hdp
            cases dp with
            | cl v u => trivial
            | opn F own u e' =>
              refine (hA p _ _ hdp (Array.getElem?_eq_getElem hplt)).2.2.1 _ _ _ h2 ⟨hK.size, fun g hgl hgo => hsame g hgl ?_⟩
              rcases hgo with hgo | hgo
              · exact .inl hgo
              · exact .inr (hdepO v p hpi hpl' g (by unfold OO; rw [if_neg e]; exact ⟨_, hdp, hgo⟩))
        · intro g hg
          obtain ⟨h1, h2⟩ := hop g (hdepO v p hpi hpl' g hg)
          exact ⟨Nat.lt_of_lt_of_le h1 hK.size, h2⟩
    · -- two who are alive share no block
      have hone : ∀ q, (ops.size ≤ q ∨ listed.getD q false = true) → (∀ j dj, D[j]? = some dj → q ∈ dj.eats → listed.getD j false = false) → q ∉ d.eats → ∀ g, d.own (upd vs i v) g → ¬ OO ops X0 D q vs g := by
        intro q hql hqlv hqe g hg hgq
        rcases (hown g hg).2 with h2 | ⟨p, hp, h2⟩
        · have := ((hI.fact q hql hqlv).2 g hgq).1; omega
        · have hpa := hal p (heu p hp)
          have hqp : q ≠ p := by rintro rfl; exact hqe hp
          exact hI.disj q p hql hqlv hpa.1 hpa.2 hqp g hgq h2
      have hii : ∀ g, OO ops X0 D i (upd vs i v) g → d.own (upd vs i v) g := fun g hg => by
        unfold OO at hg; rw [if_neg (by omega)] at hg
        obtain ⟨dp, hdp, hg⟩ := hg
        rw [hd] at hdp; injection hdp with hdp; subst hdp; exact hg
      intro p q hpl hplive hql hqlive hpq g hp hq
      obtain ⟨hlp, hep⟩ := live' p hplive
      obtain ⟨hlq, heq⟩ := live' q hqlive
      by_cases hpi : p = i
      · subst hpi
        have hqi : q ≠ p := Ne.symm hpq
        have hql' : ops.size ≤ q ∨ listed.getD q false = true := hql.imp id fun h => (listed_set h).resolve_left hqi
        exact hone q hql' hlq heq g (hii g hp) (hdepO v q hqi hql' g hq)
      · have hpl' : ops.size ≤ p ∨ listed.getD p false = true := hpl.imp id fun h => (listed_set h).resolve_left hpi
        by_cases hqi : q = i
        · subst hqi
          exact hone p hpl' hlp hep g (hii g hq) (hdepO v p hpi hpl' g hp)
        · have hql' : ops.size ≤ q ∨ listed.getD q false = true := hql.imp id fun h => (listed_set h).resolve_left hqi
          exact hI.disj p q hpl' hlp hql' hlq hpq g (hdepO v p hpi hpl' g hp) (hdepO v q hqi hql' g hq)
  -- the operation itself
  have hSw := hS w hI.keeps
  cases d with
  | cl v uses =>
    obtain ⟨hc, hrun⟩ := hask
    have hal := halive uses [] hc rfl
    have hr := hrun vs w hI.keeps hSw (fun p hp => hfull p vs w (hI.fact p (hal p hp).1 (hal p hp).2).1) (fun a' w' => ∃ v', a' = (bGo ops vs (D.take i) 0 a0).put o.dst v' ∧ (v' = v ∧ Keeps (fun _ => False) w w')) (fun v w' h => ⟨v, rfl, h⟩)
    have fin : ∀ v' w', (v' = v ∧ Keeps (fun _ => False) w w') → ∃ vs', Inv ops X0 w0 a0 F0 D (listed.setIfInBounds i true) (a.put o.dst v') w' vs' := fun v' w' ⟨h1, h2⟩ => by
      subst h1
      exact hafterI v' w' rfl trivial (by simp [OpD.eats]) hal ⟨h2.os, h2.tape, h2.output, h2.size, fun g hgl _ => h2.block g hgl id⟩ (fun g hg => hg.elim)
    unfold wpOp
    simp only [ho]
    rw [hwant]
    split
    · rename_i hw
      rw [if_pos hw] at hr
      refine .inl (wp_false (Oper.wp_mono (fun a' w' h => ?_) (wp_move hsize hexec hr)))
      obtain ⟨v, rfl, h⟩ := h
      exact fin v w' h
    · rename_i hw
      rw [if_neg hw] at hr
      obtain ⟨v, hv, h⟩ := hr
      rw [put_same hsize hv]
      exact fin v w h
  | opn F own uses eats =>
    obtain ⟨hc, hdep, hsta, hrun⟩ := hask
    have hal := halive uses eats hc rfl
    have hr := hrun vs w hI.keeps hSw (fun p hp => hfull p vs w (hI.fact p (hal p hp).1 (hal p hp).2).1) (fun a' w' => ∃ v, a' = (bGo ops vs (D.take i) 0 a0).put o.dst v ∧ (F (upd vs i v) w' ∧ Keeps (fun g => ∃ p ∈ eats, Oof (G0 ops X0 F0 :: ents (D.take i) 0) p vs g) w w' ∧ ∀ g, own (upd vs i v) g → g < w'.heap.size ∧ (w.heap.size ≤ g ∨ ∃ p ∈ eats, Oof (G0 ops X0 F0 :: ents (D.take i) 0) p vs g))) (fun v w' h => ⟨v, rfl, h⟩)
    have fin : ∀ v w', (F (upd vs i v) w' ∧ Keeps (fun g => ∃ p ∈ eats, Oof (G0 ops X0 F0 :: ents (D.take i) 0) p vs g) w w' ∧ ∀ g, own (upd vs i v) g → g < w'.heap.size ∧ (w.heap.size ≤ g ∨ ∃ p ∈ eats, Oof (G0 ops X0 F0 :: ents (D.take i) 0) p vs g)) →
        ∃ vs', Inv ops X0 w0 a0 F0 D (listed.setIfInBounds i true) (a.put o.dst v) w' vs' := fun v w' ⟨h1, h2, h3⟩ =>
      hafterI v w' (upd_same vs i v) h1 (fun p hp => (chk_eat hc hp).1) hal
        ⟨h2.os, h2.tape, h2.output, h2.size, fun g hgl hgn => h2.block g hgl (fun ⟨p, hp, hg⟩ => hgn ⟨p, hp, hfullO p vs g hg⟩)⟩
        (fun g hg => ⟨(h3 g hg).1, (h3 g hg).2.imp id fun ⟨p, hp, hg⟩ => ⟨p, hp, hfullO p vs g hg⟩⟩)
    unfold wpOp
    simp only [ho]
    rw [hwant]
    split
    · rename_i hw
      rw [if_pos hw] at hr
      refine .inl (wp_false (Oper.wp_mono (fun a' w' h => ?_) (wp_move hsize hexec hr)))
      obtain ⟨v, rfl, h⟩ := h
      exact fin v w' h
    · rename_i hw
      rw [if_neg hw] at hr
      obtain ⟨v, hv, h⟩ := hr
      rw [put_same hsize hv]
      exact fin v w h

theorem wpAny_inv {I : Array Bool → Act → World → Prop} (hd : ∀ listed a w, I listed a w → Region.ready .any ops listed = [] → Q .normal a w)
    (hs : ∀ listed a w i, I listed a w → i ∈ Region.ready .any ops listed → wpOp P ops Q i (fun a' w' => I (listed.setIfInBounds i true) a' w') a w)
    (hz : ∀ listed a w, I listed a w → listed.size = ops.size) :
    ∀ (fuel : Nat) (listed : Array Bool) (a : Act) (w : World), (listed.toList.countP (· == false)) ≤ fuel → I listed a w → wpAny P .any ops Q fuel listed a w
  | 0, listed, a, w, hf, hI => by
    have hr : Region.ready .any ops listed = [] := by
      apply List.eq_nil_iff_forall_not_mem.2
      intro i hi
      have h1 := (mem_ready.1 hi).1
      have hlt : i < listed.size := by
        rcases Nat.lt_or_ge i listed.size with h | h
        · exact h
        · simp [Array.getElem?_eq_none h] at h1
      have h2 := (List.countP_eq_zero.1 (Nat.le_zero.1 hf)) listed[i] (by simp)
      simp [hlt] at h1
      simp [h1] at h2
    exact ⟨hr, hd _ _ _ hI hr⟩
  | fuel + 1, listed, a, w, hf, hI => by
    refine ⟨fun hr => hd _ _ _ hI hr, fun i hi => wpOp_mono (fun a' w' h => wpAny_inv hd hs hz fuel _ a' w' ?_ h) (hs listed a w i hI hi)⟩
    have h1 := (mem_ready.1 hi).1
    have hlt : i < listed.size := by
      rcases Nat.lt_or_ge i listed.size with h | h
      · exact h
      · simp [Array.getElem?_eq_none h] at h1
    simp [hlt] at h1
    have h2 : (listed.setIfInBounds i true).toList = listed.toList.set i true := by simp [Array.toList_setIfInBounds]
    rw [h2, List.countP_set (by simpa using hlt)]
    simp [h1]
    have h3 : 0 < listed.toList.countP (fun x => x == false) := List.countP_pos_iff.2 ⟨listed[i], by simp, by simp [h1]⟩
    simp at h3 hf ⊢
    omega

/-- **A region that draws its order, each operation looked at once.** -/
theorem wp_region_inv {id : Nat} {w : World} (S : World → Prop) (X0 : Nat → Prop) (F0 : World → Prop) (hm : P.follows .mixedOrders = true) (hg : globChk ops = true) (hX : ∀ g, X0 g → g < w.heap.size)
    (hF : F0 w.drew) (hF0 : ∀ w1 w2, F0 w1 → Sta (fun g => (g < w.heap.size ∧ ¬ X0 g) ∨ X0 g) w1 w2 → F0 w2) (hS : ∀ w1, Keeps X0 w.drew w1 → S w1)
    (h : ROK P ops Q X0 w.drew S ops.toList 0 [] [G0 ops X0 F0] (fun _ => a0)) : (Code.region id ops true).wp P Q a0 w := by
  obtain ⟨D, hD, hA, hfin⟩ := h.data [] rfl (Nat.zero_le _) rfl rfl (fun _ => rfl) rfl
  rw [List.nil_append] at hD
  simp only [List.nil_append, Nat.zero_add] at hA hfin
  refine wp_region_any hm ?_
  refine wpAny_inv (I := fun listed a w1 => ∃ vs, Inv ops X0 w.drew a0 F0 D listed a w1 vs) ?_ ?_ ?_ _ _ _ _ ?_ ?_
  · rintro listed a w1 ⟨vs, hI⟩ hr
    have hg' := hg
    simp only [globChk, Bool.and_eq_true] at hg'
    obtain ⟨⟨⟨hsel, hlook⟩, hdist⟩, htopo⟩ := hg'
    have hall := all_listed htopo hI.size hr
    have ha : a = bGo ops vs D 0 a0 := by
      have h1 : a.tmps = (bGo ops vs D 0 a0).tmps := by
        apply Array.ext_getElem?
        intro t
        by_cases hex : ∃ j, dstOf ops j = some t
        · obtain ⟨j, hj⟩ := hex
          obtain ⟨dj, hdj⟩ : ∃ d, D[j]? = some d := ⟨_, List.getElem?_eq_getElem (by rw [hD]; exact dstOf_lt hj)⟩
          by_cases hts : t < a0.tmps.size
          · rw [hI.slot j t dj (hall j (dstOf_lt hj)) hj hts hdj, bGo_at ops vs (fun i j t => dist_of hdist i j t) t j hj dj D 0 a0 (Nat.zero_le _) (by rw [Nat.sub_zero, hdj]) hts]
          · have hts' : a0.tmps.size ≤ t := Nat.le_of_not_lt hts
            rw [Array.getElem?_eq_none (by rw [hI.tsize]; exact hts'), Array.getElem?_eq_none (by rw [bGo_size]; exact hts')]
        · rw [hI.other t (fun j _ h2 => hex ⟨j, h2⟩), bGo_other ops vs t _ _ _ (fun j _ _ h3 => hex ⟨j, h3⟩)]
      have h2 : a.defers = (bGo ops vs D 0 a0).defers := by rw [bGo_defers, hI.defers]
      cases a
      generalize bGo ops vs D 0 a0 = b at *
      cases b
      simp only at h1 h2
      rw [h1, h2]
    rw [ha]
    refine hfin vs w1 hI.keeps (hS _ hI.keeps) (fun p hp => ?_)
    rw [Fof_G0]
    by_cases hpn : p = ops.size ∨ p < ops.size
    · refine (hI.fact p ?_ ?_).1
      · exact hpn.imp (fun h => by omega) (hall p)
      · intro j d hj hm
        have h1 := List.all_eq_true.1 hp (d.sh (0 + j)) ((mem_shs _ _).2 ⟨j, d, hj, rfl⟩)
        have h2 : (!d.eats.contains p) = true := h1
        rw [List.contains_eq_mem] at h2
        simp [hm] at h2
    · unfold FF
      rw [if_neg (fun e => hpn (.inl e))]
      intro d hd
      have := (List.getElem?_eq_some_iff.1 hd).1
      exact absurd (.inr (by omega)) hpn
  · rintro listed a w1 i ⟨vs, hI⟩ hi
    exact Inv.step (w0 := w.drew) hg hX hF0 hS hD (fun j o d hd ho => hA j o d hd ho) hI hi
  · rintro listed a w1 ⟨vs, hI⟩
    exact hI.size
  · exact Nat.le_trans List.countP_le_length (by simp)
  · have hz : ∀ i, (Array.replicate ops.size false).getD i false = false := fun i => by
      simp only [Array.getD_eq_getD_getElem?, Array.getElem?_replicate]
      split <;> rfl
    have hno : ∀ i, ¬ (Array.replicate ops.size false).getD i false = true := fun i h => by rw [hz] at h; cases h
    refine ⟨fun _ => undef, ⟨by simp, fun i p h => absurd h (hno i), Keeps.refl _ _, rfl, rfl, fun i t d h => absurd h (hno i), fun t _ => rfl, ?_, ?_⟩⟩
    · intro p hp _
      have hp' : ops.size ≤ p := hp.resolve_right (hno p)
      unfold FF OO
      by_cases e : p = ops.size
      · rw [if_pos e]
        refine ⟨hF, fun g hg' => ?_⟩
        rw [if_pos e] at hg'
        exact ⟨hX g hg', fun h => h.2 hg'⟩
      · rw [if_neg e]
        refine ⟨fun d hd => ?_, fun g hg' => ?_⟩
        · have := (List.getElem?_eq_some_iff.1 hd).1; omega
        · rw [if_neg e] at hg'
          obtain ⟨d, hd, _⟩ := hg'
          have := (List.getElem?_eq_some_iff.1 hd).1; omega
    · intro p q hp _ hq _ hpq g h1 h2
      have hp' : ops.size ≤ p := hp.resolve_right (hno p)
      have hq' : ops.size ≤ q := hq.resolve_right (hno q)
      unfold OO at h1 h2
      by_cases e : p = ops.size
      · rw [if_neg (fun e' => hpq (by rw [e, e']))] at h2
        obtain ⟨d, hd, _⟩ := h2
        have := (List.getElem?_eq_some_iff.1 hd).1; omega
      · rw [if_neg e] at h1
        obtain ⟨d, hd, _⟩ := h1
        have := (List.getElem?_eq_some_iff.1 hd).1; omega
end
end

/-! ### The moves of a walk: the checks are collected, and made once, at the end -/
structure Out where
  idx : Nat
  uses : List Nat
  eats : List Nat
  gs : Option (Nat × Tmp)
  deps : List Nat := []
def Out.sh (x : Out) : Shape := ⟨x.idx, x.uses, x.eats⟩
def gsChk (ops : Array Oper) : Option (Nat × Tmp) → Bool
  | none => true
  | some (g, t) => dstOf ops g == some t
def chkF (sh : List Shape) (uses : List Nat) : Bool := uses.all fun p => sh.all fun s => !s.eats.contains p
def chkAll (ops : Array Oper) : List Shape → List Out → Bool
  | _, [] => true
  | sh, x :: r => (bif Nat.beq x.idx ops.size then chkF sh x.uses else chk ops sh x.idx x.uses x.eats) && (gsChk ops x.gs && x.deps.all (maskOf ops x.idx)) && chkAll ops (sh ++ [x.sh]) r

/-- the guard of an operation: none, or a place that holds a truth value -/
def Want (o : Oper) (gs : Option (Nat × Tmp)) (a : Act) (x : Bool) : Prop :=
  match o.guard, gs with
  | none, none => x = true
  | some (g, want), some (g', t) => g = g' ∧ ∃ y, a.tmps[t]? = some (.bool y) ∧ x = (y == want)
  | _, _ => False
/-- a guard that was itself not asked: its place holds nothing that is true or false -/
def Unasked (o : Oper) (gs : Option (Nat × Tmp)) (a : Act) : Prop :=
  match o.guard, gs with
  | some (g, _), some (g', t) => g = g' ∧ a.tmps[t]? = some undef
  | _, _ => False
theorem want_of {ops : Array Oper} {o : Oper} {gs : Option (Nat × Tmp)} {a : Act} {x : Bool} (h : Want o gs a x) (hc : gsChk ops gs = true) : Region.wanted o (yielded ops a.tmps) = x := by
  unfold Want at h
  unfold Region.wanted
  cases hg : o.guard with
  | none =>
    rw [hg] at h
    cases gs with
    | none => exact h.symm
    | some p => exact h.elim
  | some p =>
    obtain ⟨g, want⟩ := p
    rw [hg] at h
    cases gs with
    | none => exact h.elim
    | some q =>
      obtain ⟨g', t⟩ := q
      obtain ⟨rfl, y, hy, rfl⟩ := h
      have hd : dstOf ops g = some t := by simpa [gsChk] using hc
      unfold dstOf at hd
      have hyd : yielded ops a.tmps g = some y := by
        unfold yielded
        rw [hd]
        simp only [Option.bind_some, hy]
      show (yielded ops a.tmps g == some want) = _
      rw [hyd]
      cases y <;> cases want <;> rfl
theorem unasked_of {ops : Array Oper} {o : Oper} {gs : Option (Nat × Tmp)} {a : Act} (h : Unasked o gs a) (hc : gsChk ops gs = true) : Region.wanted o (yielded ops a.tmps) = false := by
  unfold Unasked at h
  unfold Region.wanted
  cases hg : o.guard with
  | none =>
    rw [hg] at h
    exact h.elim
  | some p =>
    obtain ⟨g, want⟩ := p
    rw [hg] at h
    cases gs with
    | none => exact h.elim
    | some q =>
      obtain ⟨g', t⟩ := q
      obtain ⟨rfl, hy⟩ := h
      have hd : dstOf ops g = some t := by simpa [gsChk] using hc
      unfold dstOf at hd
      have hyd : yielded ops a.tmps g = none := by
        unfold yielded
        rw [hd]
        simp only [Option.bind_some, hy]
        rfl
      show (yielded ops a.tmps g == some want) = _
      rw [hyd]
      cases want <;> rfl

section
variable (P : Program) (QN : Act → World → Prop) (X0 : Nat → Prop) (w0 : World) (S : World → Prop)
inductive RK : List Oper → Nat → List Ent → (Vs → Act) → List Out → Prop
  | done {k : Nat} {Γ : List Ent} {b : Vs → Act} (live : List Nat)
      (h : ∀ vs w, Keeps X0 w0 w → S w → (∀ p ∈ live, Fof Γ p vs w) → QN (b vs) w) : RK [] k Γ b [⟨k, live, [], none, []⟩]
  | val {o : Oper} {rest : List Oper} {k : Nat} {Γ : List Ent} {b : Vs → Act} {out : List Out} (v : Value) (uses : List Nat) (gs : Option (Nat × Tmp))
      (h : ∀ vs w, Keeps X0 w0 w → S w → (∀ p ∈ uses, Fof Γ p vs w) → ∃ x, (Want o gs (b vs) x ∨ (x = false ∧ Unasked o gs (b vs))) ∧ ∀ K : Act → World → Prop, Shut (∀ w', Below w.heap.size w w' → K ((b vs).put o.dst v) w') →
        if x = true then o.wp P (b vs) w K (fun _ _ _ => False) else K ((b vs).put o.dst undef) w)
      (hr : RK rest (k + 1) Γ (fun vs => (b vs).put o.dst v) out) : RK (o :: rest) k Γ b (⟨k, uses, [], gs, []⟩ :: out)
  | op {o : Oper} {rest : List Oper} {k : Nat} {Γ : List Ent} {b : Vs → Act} {out : List Out} (F : Vs → World → Prop) (own : Vs → Nat → Prop) (uses eats deps : List Nat) (gs : Option (Nat × Tmp))
      (hd : ∀ vs vs' : Vs, (∀ i ∈ k :: deps, vs i = vs' i) → F vs = F vs' ∧ own vs = own vs')
      (hs : ∀ vs w w', F vs w → Sta (fun g => (g < w0.heap.size ∧ ¬ X0 g) ∨ own vs g) w w' → F vs w')
      (h : ∀ vs w, Keeps X0 w0 w → S w → (∀ p ∈ uses, Fof Γ p vs w) → ∃ x, Want o gs (b vs) x ∧ ∀ K : Act → World → Prop, Shut (∀ v w', (F (upd vs k v) w' ∧ Keeps (fun g => ∃ p ∈ eats, Oof Γ p vs g) w w' ∧ ∀ g, own (upd vs k v) g → g < w'.heap.size ∧ (w.heap.size ≤ g ∨ ∃ p ∈ eats, Oof Γ p vs g)) → K ((b vs).put o.dst v) w') →
        if x = true then o.wp P (b vs) w K (fun _ _ _ => False) else K ((b vs).put o.dst undef) w)
      (hr : RK rest (k + 1) (Γ ++ [⟨k, F, own⟩]) (fun vs => (b vs).put o.dst (vs k)) out) : RK (o :: rest) k Γ b (⟨k, uses, eats, gs, deps⟩ :: out)
end

theorem RK.rok {P : Program} {ops : Array Oper} {Q : Exit → Act → World → Prop} {QN : Act → World → Prop} {X0 : Nat → Prop} {w0 : World} {S : World → Prop} (hQ : ∀ a w, QN a w → Q .normal a w)
    {rest : List Oper} {k : Nat} {Γ : List Ent} {b : Vs → Act} {out : List Out} (h : RK P QN X0 w0 S rest k Γ b out) :
    ∀ (Δ : List Ent), (∀ p vs w, Fof (Δ ++ Γ) p vs w → Fof Γ p vs w) → (∀ p vs g, Oof Γ p vs g → Oof (Δ ++ Γ) p vs g) → (∀ e ∈ Δ, ops.size ≤ e.idx) → k + rest.length = ops.size → ∀ sh : List Shape, chkAll ops sh out = true → ROK P ops Q X0 w0 S rest k sh (Δ ++ Γ) b := by
  induction h with
  | @done k Γ b live h =>
    intro Δ hF hO _ hkn sh hc
    have hk : k = ops.size := hkn
    subst hk
    simp only [chkAll, Bool.and_eq_true, Nat.beq_refl, cond_true] at hc
    refine .done fun vs w hK hS hf => hQ _ _ (h vs w hK hS fun p hp => hF _ _ _ (hf p ?_))
    exact List.all_eq_true.1 hc.1.1 p hp
  | @val o rest k Γ b out v uses gs h hr ih =>
    intro Δ hF hO hΔ hkn sh hc
    have hkb : Nat.beq k ops.size = false := by
      cases hb : Nat.beq k ops.size
      · rfl
      · have := Nat.eq_of_beq_eq_true hb; rw [List.length_cons] at hkn; omega
    simp only [chkAll, Bool.and_eq_true, hkb, cond_false] at hc
    refine .val v uses hc.1.1 (fun vs w hK hS hf => ?_) (ih Δ hF hO hΔ (by rw [List.length_cons] at hkn; omega) _ hc.2)
    obtain ⟨x, hx, hw⟩ := h vs w hK hS (fun p hp => hF _ _ _ (hf p hp))
    intro K hKK
    have hx' : Region.wanted o (yielded ops (b vs).tmps) = x := by
      rcases hx with hx | ⟨rfl, hx⟩
      · exact want_of hx hc.1.2.1
      · exact unasked_of hx hc.1.2.1
    rw [hx']
    exact hw K (fun w' hu => hKK v w' ⟨rfl, Keeps.of_up hu⟩)
  | @op o rest k Γ b out F own uses eats deps gs hd hs h hr ih =>
    intro Δ hF hO hΔ hkn sh hc
    have hkb : Nat.beq k ops.size = false := by
      cases hb : Nat.beq k ops.size
      · rfl
      · have := Nat.eq_of_beq_eq_true hb; rw [List.length_cons] at hkn; omega
    simp only [chkAll, Bool.and_eq_true, hkb, cond_false] at hc
    have hlt : k < ops.size := by rw [List.length_cons] at hkn; omega
    have hne : ∀ e ∈ Δ, Nat.beq e.idx k = false := fun e he => by
      cases hb : Nat.beq e.idx k
      · rfl
      · have := Nat.eq_of_beq_eq_true hb; have := hΔ e he; omega
    have e1 : (Δ ++ Γ) ++ [(⟨k, F, own⟩ : Ent)] = Δ ++ (Γ ++ [⟨k, F, own⟩]) := List.append_assoc _ _ _
    have fofΔ : ∀ (Δ : List Ent), (∀ e ∈ Δ, Nat.beq e.idx k = false) → ∀ (Z : List Ent) (vs : Vs) (w : World), Fof (Δ ++ Z) k vs w ↔ Fof Z k vs w := by
      intro Δ hne Z vs w
      induction Δ with
      | nil => rfl
      | cons e r ih2 =>
        rw [List.cons_append, Fof, hne e List.mem_cons_self, cond_false]
        exact ih2 (fun e he => hne e (List.mem_cons_of_mem _ he))
    have hr' := ih Δ ?_ ?_ hΔ (by rw [List.length_cons] at hkn; omega) _ hc.2
    · refine .op F own uses eats hc.1.1 (fun vs vs' he => hd vs vs' fun i hi => he i ?_) (fun vs w w' hg hst => hs _ _ _ hg hst) ?_ (by rw [e1]; exact hr')
      · rcases List.mem_cons.1 hi with hi | hi
        · exact .inl hi
        · exact .inr (List.all_eq_true.1 hc.1.2.2 i hi)
      intro vs w hK hS hf K hKK
      obtain ⟨x, hx, hw⟩ := h vs w hK hS (fun p hp => hF _ _ _ (hf p hp))
      rw [want_of hx hc.1.2.1]
      exact hw K (fun v w' ⟨h1, h2, h3⟩ => hKK v w' ⟨h1, ⟨h2.os, h2.tape, h2.output, h2.size, fun g hgl hgn => h2.block g hgl (fun ⟨p, hp, hg⟩ => hgn ⟨p, hp, hO _ _ _ hg⟩)⟩, fun g hg =>
        ⟨(h3 g hg).1, (h3 g hg).2.imp id fun ⟨p, hp, hg⟩ => ⟨p, hp, hO _ _ _ hg⟩⟩⟩)
    · -- facts of the longer row
      have split : ∀ (Γ : List Ent) (p : Nat) (vs : Vs) (w : World) (e : Ent), Fof (Γ ++ [e]) p vs w ↔ (Fof Γ p vs w ∧ ((∀ x ∈ Γ, Nat.beq x.idx p = false) → Nat.beq e.idx p = true → e.F vs w)) := by
        intro Γ p vs w e
        induction Γ with
        | nil => simp only [List.nil_append, Fof]; cases Nat.beq e.idx p <;> simp
        | cons x r ih2 =>
          simp only [List.cons_append, Fof]
          cases hb : Nat.beq x.idx p
          · simp only [cond_false]; rw [ih2]; simp [hb]
          · simp only [cond_true]
            constructor
            · intro hx; exact ⟨hx, fun hall => by have := hall x List.mem_cons_self; rw [hb] at this; cases this⟩
            · exact fun hx => hx.1
      intro p vs w hf
      rw [← e1] at hf
      have h1 := (split (Δ ++ Γ) p vs w _).1 hf
      refine (split Γ p vs w _).2 ⟨hF p vs w h1.1, fun hall hb => ?_⟩
      refine h1.2 (fun x hx => ?_) hb
      rcases List.mem_append.1 hx with hx | hx
      · have hb' : k = p := Nat.eq_of_beq_eq_true hb
        rw [← hb']; exact hne x hx
      · exact hall x hx
    · have split : ∀ (Γ : List Ent) (p : Nat) (vs : Vs) (g : Nat) (e : Ent), Oof (Γ ++ [e]) p vs g ↔ (Oof Γ p vs g ∨ ((∀ x ∈ Γ, Nat.beq x.idx p = false) ∧ Nat.beq e.idx p = true ∧ e.own vs g)) := by
        intro Γ p vs g e
        induction Γ with
        | nil => simp only [List.nil_append, Oof]; cases Nat.beq e.idx p <;> simp
        | cons x r ih2 =>
          simp only [List.cons_append, Oof]
          cases hb : Nat.beq x.idx p
          · simp only [cond_false]; rw [ih2]; simp [hb]
          · simp only [cond_true]
            constructor
            · intro hx; exact .inl hx
            · rintro (hx | ⟨hall, _⟩)
              · exact hx
              · have := hall x List.mem_cons_self; rw [hb] at this; cases this
      intro p vs g hf
      rw [← e1]
      rcases (split Γ p vs g _).1 hf with h1 | ⟨h1, h2, h3⟩
      · exact (split (Δ ++ Γ) p vs g _).2 (.inl (hO p vs g h1))
      · refine (split (Δ ++ Γ) p vs g _).2 (.inr ⟨fun x hx => ?_, h2, h3⟩)
        rcases List.mem_append.1 hx with hx | hx
        · have hb' : k = p := Nat.eq_of_beq_eq_true h2
          rw [← hb']; exact hne x hx
        · exact h1 x hx

/-! ### What a walk types -/
def Fall (Γ : List Ent) : List Nat → Vs → World → Prop
  | [], _, _ => True
  | p :: r, vs, w => Fof Γ p vs w ∧ Fall Γ r vs w
theorem Fall.mk {Γ : List Ent} {vs : Vs} {w : World} : ∀ {l : List Nat}, (∀ p ∈ l, Fof Γ p vs w) → Fall Γ l vs w
  | [], _ => trivial
  | p :: r, h => ⟨h p List.mem_cons_self, Fall.mk fun q hq => h q (List.mem_cons_of_mem _ hq)⟩

/-- the block that a slice or a pointer leads to -/
def ob (v : Value) (g : Nat) : Prop := match v with
  | .slice (some a) _ _ => a.block = g
  | .pointer (some a) => a.block = g
  | _ => False

section
variable {P : Program} {QN : Act → World → Prop} {X0 : Nat → Prop} {w0 : World} {S : World → Prop} {o : Oper} {rest : List Oper} {k : Nat} {Γ : List Ent} {b : Vs → Act} {out : List Out}
/-- all have come up -/
theorem RK.fin (live : List Nat) (h : ∀ vs w, Keeps X0 w0 w → S w → Fall Γ live vs w → QN (b vs) w) : RK P QN X0 w0 S [] k Γ b [⟨k, live, [], none, []⟩] :=
  .done live fun vs w hK hS hf => h vs w hK hS (Fall.mk hf)
/-- an operation that yields v and leaves memory as it is -/
theorem RK.ok {v : Value} (h : ∀ vs w, S w → (execOp (b vs).eval o).run P w = .ok (.value v) w) (hg : o.guard = none) (hr : RK P QN X0 w0 S rest (k + 1) Γ (fun vs => (b vs).put o.dst v) out) : RK P QN X0 w0 S (o :: rest) k Γ b (⟨k, [], [], none, []⟩ :: out) :=
  .val v [] none (fun vs w _ hS _ => ⟨true, .inl (by simp only [Want, hg]), fun K hK => by
    rw [if_pos rfl, Oper.wp, h vs w hS]
    exact hK.out w (Below.refl _ _)⟩) hr
/-- the same, from what is known of those in 'uses' -/
theorem RK.okU (uses : List Nat) {v : Value} (h : ∀ vs w, S w → Fall Γ uses vs w → (execOp (b vs).eval o).run P w = .ok (.value v) w) (hg : o.guard = none) (hr : RK P QN X0 w0 S rest (k + 1) Γ (fun vs => (b vs).put o.dst v) out) : RK P QN X0 w0 S (o :: rest) k Γ b (⟨k, uses, [], none, []⟩ :: out) :=
  .val v uses none (fun vs w _ hS hf => ⟨true, .inl (by simp only [Want, hg]), fun K hK => by
    rw [if_pos rfl, Oper.wp, h vs w hS (Fall.mk hf)]
    exact hK.out w (Below.refl _ _)⟩) hr
/-- guarded, and asked -/
theorem RK.gok {g t : Nat} {x : Bool} {v : Value} (h : ∀ vs w, S w → (execOp (b vs).eval o).run P w = .ok (.value v) w) (hg : o.guard = some (g, x)) (ht : ∀ vs, (b vs).tmps[t]? = some (.bool x)) (hr : RK P QN X0 w0 S rest (k + 1) Γ (fun vs => (b vs).put o.dst v) out) : RK P QN X0 w0 S (o :: rest) k Γ b (⟨k, [], [], some (g, t), []⟩ :: out) :=
  .val v [] (some (g, t)) (fun vs w _ hS _ => ⟨true, .inl (by simp only [Want, hg]; exact ⟨trivial, x, ht vs, by cases x <;> rfl⟩), fun K hK => by
    rw [if_pos rfl, Oper.wp, h vs w hS]
    exact hK.out w (Below.refl _ _)⟩) hr
/-- guarded, and not asked -/
theorem RK.gno {g t : Nat} {x y : Bool} (hg : o.guard = some (g, x)) (ht : ∀ vs, (b vs).tmps[t]? = some (.bool y)) (hxy : (y == x) = false) (hr : RK P QN X0 w0 S rest (k + 1) Γ (fun vs => (b vs).put o.dst undef) out) : RK P QN X0 w0 S (o :: rest) k Γ b (⟨k, [], [], some (g, t), []⟩ :: out) :=
  .val undef [] (some (g, t)) (fun vs w _ hS _ => ⟨false, .inl (by simp only [Want, hg]; exact ⟨trivial, y, ht vs, hxy.symm⟩), fun K hK => by
    rw [if_neg (by simp)]
    exact hK.out w (Below.refl _ _)⟩) hr
/-- guarded by one that was not asked itself -/
theorem RK.gun {g t : Nat} {x : Bool} (hg : o.guard = some (g, x)) (ht : ∀ vs, (b vs).tmps[t]? = some undef) (hr : RK P QN X0 w0 S rest (k + 1) Γ (fun vs => (b vs).put o.dst undef) out) : RK P QN X0 w0 S (o :: rest) k Γ b (⟨k, [], [], some (g, t), []⟩ :: out) :=
  .val undef [] (some (g, t)) (fun vs w _ hS _ => ⟨false, .inr ⟨rfl, by simp only [Unasked, hg]; exact ⟨trivial, ht vs⟩⟩, fun K hK => by
    rw [if_neg (by simp)]
    exact hK.out w (Below.refl _ _)⟩) hr
/-- a call (or whatever makes memory and changes none) that yields v -/
theorem RK.call (v : Value) (uses : List Nat) (hg : o.guard = none)
    (h : ∀ vs w, Keeps X0 w0 w → S w → Fall Γ uses vs w → ∀ K : Act → World → Prop, Shut (∀ w', Below w.heap.size w w' → K ((b vs).put o.dst v) w') → o.wp P (b vs) w K (fun _ _ _ => False))
    (hr : RK P QN X0 w0 S rest (k + 1) Γ (fun vs => (b vs).put o.dst v) out) : RK P QN X0 w0 S (o :: rest) k Γ b (⟨k, uses, [], none, []⟩ :: out) :=
  .val v uses none (fun vs w hK hS hf => ⟨true, .inl (by simp only [Want, hg]), fun K hKK => by
    rw [if_pos rfl]
    exact h vs w hK hS (Fall.mk hf) K hKK⟩) hr
/-- the same, guarded and asked -/
theorem RK.gcall {g t : Nat} {x : Bool} (v : Value) (uses : List Nat) (hg : o.guard = some (g, x)) (ht : ∀ vs, (b vs).tmps[t]? = some (.bool x))
    (h : ∀ vs w, Keeps X0 w0 w → S w → Fall Γ uses vs w → ∀ K : Act → World → Prop, Shut (∀ w', Below w.heap.size w w' → K ((b vs).put o.dst v) w') → o.wp P (b vs) w K (fun _ _ _ => False))
    (hr : RK P QN X0 w0 S rest (k + 1) Γ (fun vs => (b vs).put o.dst v) out) : RK P QN X0 w0 S (o :: rest) k Γ b (⟨k, uses, [], some (g, t), []⟩ :: out) :=
  .val v uses (some (g, t)) (fun vs w hK hS hf => ⟨true, .inl (by simp only [Want, hg]; exact ⟨trivial, x, ht vs, by cases x <;> rfl⟩), fun K hKK => by
    rw [if_pos rfl]
    exact h vs w hK hS (Fall.mk hf) K hKK⟩) hr
/-- an operation whose value meets G behind it; it may own blocks -/
theorem RK.opn (G : Value → World → Prop) (own : Value → Nat → Prop) (uses eats : List Nat)
    (hs : ∀ v w w', G v w → Sta (fun g => (g < w0.heap.size ∧ ¬ X0 g) ∨ own v g) w w' → G v w') (hg : o.guard = none)
    (h : ∀ vs w, Keeps X0 w0 w → S w → Fall Γ uses vs w → ∀ K : Act → World → Prop, Shut (∀ v w', G v w' → Keeps (fun g => ∃ p ∈ eats, Oof Γ p vs g) w w' → (∀ g, own v g → g < w'.heap.size ∧ (w.heap.size ≤ g ∨ ∃ p ∈ eats, Oof Γ p vs g)) → K ((b vs).put o.dst v) w') → o.wp P (b vs) w K (fun _ _ _ => False))
    (hr : RK P QN X0 w0 S rest (k + 1) (Γ ++ [⟨k, fun vs => G (vs k), fun vs => own (vs k)⟩]) (fun vs => (b vs).put o.dst (vs k)) out) : RK P QN X0 w0 S (o :: rest) k Γ b (⟨k, uses, eats, none, []⟩ :: out) :=
  .op (fun vs => G (vs k)) (fun vs => own (vs k)) uses eats [] none (fun vs vs' he => by rw [he k List.mem_cons_self]; exact ⟨rfl, rfl⟩) (fun vs w w' hg hst => hs _ _ _ hg hst) (fun vs w hK hS hf => ⟨true, by simp only [Want, hg], fun K hKK => by
    rw [if_pos rfl]
    refine h vs w hK hS (Fall.mk hf) K (fun v w' h1 h2 h3 => hKK v w' ⟨?_, h2, fun g hg => h3 g ?_⟩)
    · show G (upd vs k v k) w'
      rw [upd_same]; exact h1
    · have hg' : own (upd vs k v k) g := hg
      rwa [upd_same] at hg'⟩) hr
/-- the same; what is known speaks of the values of those in 'deps' too -/
theorem RK.opD (F : Vs → World → Prop) (own : Vs → Nat → Prop) (uses eats deps : List Nat) (hd : ∀ vs vs' : Vs, (∀ i ∈ k :: deps, vs i = vs' i) → F vs = F vs' ∧ own vs = own vs')
    (hs : ∀ vs w w', F vs w → Sta (fun g => (g < w0.heap.size ∧ ¬ X0 g) ∨ own vs g) w w' → F vs w') (hg : o.guard = none)
    (h : ∀ vs w, Keeps X0 w0 w → S w → Fall Γ uses vs w → ∀ K : Act → World → Prop, Shut (∀ v w', F (upd vs k v) w' → Keeps (fun g => ∃ p ∈ eats, Oof Γ p vs g) w w' → (∀ g, own (upd vs k v) g → g < w'.heap.size ∧ (w.heap.size ≤ g ∨ ∃ p ∈ eats, Oof Γ p vs g)) → K ((b vs).put o.dst v) w') → o.wp P (b vs) w K (fun _ _ _ => False))
    (hr : RK P QN X0 w0 S rest (k + 1) (Γ ++ [⟨k, F, own⟩]) (fun vs => (b vs).put o.dst (vs k)) out) : RK P QN X0 w0 S (o :: rest) k Γ b (⟨k, uses, eats, none, deps⟩ :: out) :=
  .op F own uses eats deps none hd hs (fun vs w hK hS hf => ⟨true, by simp only [Want, hg], fun K hKK => by
    rw [if_pos rfl]
    exact h vs w hK hS (Fall.mk hf) K (fun v w' h1 h2 h3 => hKK v w' ⟨h1, h2, h3⟩)⟩) hr
end

section
variable {P : Program} {l : List Oper} {Q : Exit → Act → World → Prop} {a : Act} {w : World} {id : Nat} {out : List Out}
theorem region_up (S : World → Prop) (hm : P.follows .mixedOrders = true) (hg : globChk l.toArray = true) (hS : ∀ w1, Below w.heap.size w w1 → S w1)
    (h : ∀ QN : Act → World → Prop, Shut (∀ a w', Q .normal a w' → QN a w') → RK P QN (fun _ => False) w.drew S l 0 [] (fun _ => a) out) (hc : chkAll l.toArray [] out = true) : (Code.region id l.toArray true).wp P Q a w := by
  refine wp_region_inv S (fun _ => False) (fun _ => True) hm hg (fun g hg => hg.elim) trivial (fun _ _ _ _ => trivial) (fun w1 hK => hS w1 ?_) (show ROK P l.toArray Q (fun _ => False) w.drew S l 0 [] [G0 l.toArray (fun _ => False) (fun _ => True)] (fun _ => a) from ?_)
  · have := hK.up
    exact ⟨this.os, this.tape, this.output, this.size, this.block⟩
  · exact RK.rok (fun a w h => h) (h (fun a w' => Q .normal a w') (fun a w' h => h)) [G0 l.toArray (fun _ => False) (fun _ => True)]
      (fun p vs w h => by
        by_cases e : l.toArray.size = p
        · have h1 : Fof ([] : List Ent) p vs w := trivial
          exact h1
        · exact trivial)
      (fun p vs g h => (h : False).elim) (fun e he => by simp only [List.mem_singleton] at he; subst he; exact Nat.le_refl _) (by simp) [] hc
/-- X0: blocks that the region may write (rows of the call's own); F0: what is known of them at its beginning; number 'n' in 'uses' and 'eats' -/
theorem region_own (n : Nat) (S : World → Prop) (X0 : Nat → Prop) (F0 : World → Prop) (hn : l.length = n) (hm : P.follows .mixedOrders = true) (hg : globChk l.toArray = true) (hX : ∀ g, X0 g → g < w.heap.size) (hF : F0 w.drew)
    (hF0 : ∀ w1 w2, F0 w1 → Sta (fun g => (g < w.heap.size ∧ ¬ X0 g) ∨ X0 g) w1 w2 → F0 w2) (hS : ∀ w1, Keeps X0 w.drew w1 → S w1)
    (h : ∀ QN : Act → World → Prop, Shut (∀ a w', Q .normal a w' → QN a w') → RK P QN X0 w.drew S l 0 [⟨n, fun _ => F0, fun _ => X0⟩] (fun _ => a) out) (hc : chkAll l.toArray [] out = true) : (Code.region id l.toArray true).wp P Q a w := by
  subst hn
  refine wp_region_inv S X0 F0 hm hg hX hF hF0 hS (show ROK P l.toArray Q X0 w.drew S l 0 [] [⟨l.length, fun _ => F0, fun _ => X0⟩] (fun _ => a) from ?_)
  exact RK.rok (Δ := []) (fun a w h => h) (h (fun a w' => Q .normal a w') (fun a w' h => h)) (fun p vs w h => h) (fun p vs g h => h) (fun e he => by cases he) (by simp) [] hc
end
end Go.Proofs.Ytnbdijifhimogaa.Rg
