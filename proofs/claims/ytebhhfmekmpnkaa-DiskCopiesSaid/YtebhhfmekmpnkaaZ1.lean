/-
  Texts of this claim, joined: Base, Region, Tx, Apart, DkA, DkW1, DkW2, DkW3.
-/
import Derived.Test.YtebhhfmekmpnkaaRows
import Derived.WalkKit
import Derived.WalkSpells
import Derived.WalkLawsBesides
import Derived.Lib.Hide
import Derived.Deep.Draws
import Derived.Deep.AppendLies
import Derived.Maps.AppendAt
import Derived.RegionTactic
import Derived.Laws.MakeOwn
import Derived.CheckFast
import Derived.Orders
import Derived.Below
import Derived.Deep.RegionHeld
import Derived.Maps.OwnOps
import Derived.Maps.OwnSet
import Derived.Laws.LoneSync
import Derived.IntWalk
import Derived.Maps.RangeWalk
import Derived.StringKeys
/-
  Words for memory that the walks share: a slice that reads as a list of values, worlds that only grow, bytes and numbers as values. No program is named here.
-/
namespace Go.Proofs.Ytebhhfmekmpnkaa
open Go.RowKit
set_option linter.unusedVariables false

/-! ### Worlds that only grow -/

/-- Nothing that is there in w has turned in w'. -/
abbrev Up (w w' : World) : Prop := Below w.heap.size w w'
theorem Up.refl (w : World) : Up w w := Below.refl _ _
theorem Up.trans {a b c : World} (h : Up a b) (k : Up b c) : Up a c := Below.trans h (k.mono h.size)
theorem Up.drew {a w : World} (h : Up a w) : Up a w.drew := Below.drew h
theorem Up.drewN {a w : World} (h : Up a w) (n : Nat) : Up a (w.drewN n) := ⟨h.os, h.tape, h.output, h.size, h.block⟩
theorem Up.alloc {a w : World} (h : Up a w) (o : Obj) : Up a (w.alloc o) := Below.alloc h h.size o
theorem Up.set_ {a w : World} (h : Up a w) {p : Addr} (hp : a.heap.size ≤ p.block) (u : Value) : Up a (w.setCell p u) := Below.setCell h hp u
theorem Up.grown {a w w' : World} {row : Option Nat} (h : Up a w) (hg : w.grownBy w' row) (hr : ∀ k, row = some k → a.heap.size ≤ k) : Up a w' := Below.grown h hg h.size hr

/-! ### A slice that reads as a list of cells -/

/-- The slice with address A and n elements of sz cells each holds the cells xs, in a block below B. -/
def Rd (w : World) (B sz : Nat) (A : Option Addr) (n : Nat) (xs : List Value) : Prop :=
  xs.length = n * sz ∧ (0 < n → ∃ b o, A = some ⟨b, o, none⟩ ∧ b < B ∧ ∀ j u, xs[j]? = some u → w.cell? ⟨b, o + j, none⟩ = some u)

section
variable {w w' : World} {B B' sz n : Nat} {A : Option Addr} {xs : List Value}
theorem Rd.empty : Rd w B sz A 0 [] := ⟨by simp, fun h => absurd h (by omega)⟩
theorem Rd.len (h : Rd w B sz A n xs) : xs.length = n * sz := h.1
theorem Rd.keep (h : Rd w B sz A n xs) (hk : ∀ p : Addr, p.block < B → w'.cell? p = w.cell? p) : Rd w' B sz A n xs :=
  ⟨h.1, fun hn => by
    obtain ⟨b, o, e, hb, hc⟩ := h.2 hn
    exact ⟨b, o, e, hb, fun j u hu => (hk _ hb).trans (hc j u hu)⟩⟩
theorem Rd.mono (h : Rd w B sz A n xs) (hB : B ≤ B') : Rd w B' sz A n xs :=
  ⟨h.1, fun hn => by
    obtain ⟨b, o, e, hb, hc⟩ := h.2 hn
    exact ⟨b, o, e, by omega, hc⟩⟩
theorem Rd.below (h : Rd w B sz A n xs) (hb : Below B w w') : Rd w' B sz A n xs := h.keep fun _ hp => hb.cell hp
theorem Rd.stay (h : Rd w B sz A n xs) (hB : B ≤ w.heap.size) (hb : Up w w') : Rd w' B sz A n xs := h.below (hb.mono hB)
theorem Rd.up (h : Rd w w.heap.size sz A n xs) (hb : Up w w') : Rd w' w'.heap.size sz A n xs := (h.below hb).mono hb.size
theorem Rd.drew (h : Rd w B sz A n xs) : Rd w.drew B sz A n xs := h
theorem Rd.drewN (h : Rd w B sz A n xs) (k : Nat) : Rd (w.drewN k) B sz A n xs := h
theorem Rd.alloc (h : Rd w B sz A n xs) (hB : B ≤ w.heap.size) (o : Obj) : Rd (w.alloc o) B sz A n xs := h.keep fun p hp => World.cell?_alloc_lt w o p (by omega)
theorem Rd.set_ (h : Rd w B sz A n xs) {p : Addr} (hB : B ≤ p.block) (u : Value) : Rd (w.setCell p u) B sz A n xs :=
  h.keep fun q hq => World.cell?_setCell_other w p q u (fun e => by subst e; omega)
theorem Rd.grown (h : Rd w B sz A n xs) {row : Option Nat} (hg : w.grownBy w' row) (hB : B ≤ w.heap.size) (hr : ∀ g, row = some g → B ≤ g) : Rd w' B sz A n xs :=
  h.keep fun p hp => World.cell?_of_block (hg.block p.block (by omega) (fun e => by have := hr _ e.symm; omega))
/-- behind an append: a block that is not the one that was written -/
theorem Rd.far {g o : Nat} (h : Rd w B sz (some ⟨g, o, none⟩) n xs) (hn : 0 < n) {row : Option Nat} (hg : w.grownBy w' row) (hlt : g < w.heap.size) (hne : some g ≠ row) : Rd w' B sz (some ⟨g, o, none⟩) n xs :=
  ⟨h.1, fun _ => by
    obtain ⟨b, o', e, hb, hc⟩ := h.2 hn
    injection e with e
    injection e with e1 e2
    subst e1; subst e2
    exact ⟨g, o, rfl, hb, fun j u hu => (World.cell?_of_block (hg.block g hlt hne)).trans (hc j u hu)⟩⟩
/-- s[k:] -/
theorem Rd.from_ (h : Rd w B sz A n xs) {k cap : Nat} (hk : k ≤ n) (hc : n ≤ cap) : Rd w B sz (if cap = k then A else A.map (·.add (k * sz))) (n - k) (xs.drop (k * sz)) := by
  refine ⟨by rw [List.length_drop, h.1, Nat.sub_mul], fun hn => ?_⟩
  obtain ⟨b, o, rfl, hb, hcell⟩ := h.2 (by omega)
  rw [if_neg (by omega)]
  refine ⟨b, o + k * sz, ?_, hb, fun j u hu => ?_⟩
  · simp only [Option.map_some, Addr.add]
    split
    · rename_i h0; simp [h0]
    · rfl
  · rw [Nat.add_assoc]
    exact hcell _ u (by rw [← hu, List.getElem?_drop])
/-- s[:k] -/
theorem Rd.to_ (h : Rd w B sz A n xs) {k : Nat} (hk : k ≤ n) : Rd w B sz A k (xs.take (k * sz)) := by
  refine ⟨by rw [List.length_take, h.1]; exact Nat.min_eq_left (Nat.mul_le_mul_right _ hk), fun hn => ?_⟩
  obtain ⟨b, o, rfl, hb, hcell⟩ := h.2 (by omega)
  refine ⟨b, o, rfl, hb, fun j u hu => hcell j u ?_⟩
  rw [List.getElem?_take] at hu
  split at hu
  · exact hu
  · cases hu
theorem Rd.own {base : Nat} {e : TypeId} {c : Nat} (h : w.ownsRow base e sz (.slice A n c) n xs) : Rd w w.heap.size sz A n xs := by
  refine ⟨h.1, fun hn => ?_⟩
  rcases h.2 with ⟨hv, h0⟩ | ⟨g, cap, cur, hv, hg, hh, hnc, hcm, hcs, ht⟩
  · omega
  · have hA : A = some ⟨g, 0, none⟩ := by injection hv
    subst hA
    refine ⟨g, 0, rfl, (Array.getElem?_eq_some_iff.1 hh).1, fun j u hu => ?_⟩
    have := h.cells (g := g) rfl j u hu
    have e : (⟨g, 0, none⟩ : Addr).add j = ⟨g, 0 + j, none⟩ := by unfold Addr.add; split <;> simp_all
    rwa [e] at this
end

theorem own_form {w : World} {base : Nat} {e : TypeId} {sz n : Nat} {v : Value} {xs : List Value} (h : w.ownsRow base e sz v n xs) : ∃ A c, v = .slice A n c := by
  rcases h.2 with ⟨rfl, rfl⟩ | ⟨g, cap, cur, rfl, _⟩
  · exact ⟨none, 0, rfl⟩
  · exact ⟨_, _, rfl⟩
theorem own_cap {w : World} {base : Nat} {e : TypeId} {sz n c : Nat} {A : Option Addr} {xs : List Value} (h : w.ownsRow base e sz (.slice A n c) n xs) : n ≤ c := by
  rcases h.2 with ⟨hv, rfl⟩ | ⟨g, cap, cur, hv, _, _, hn, _⟩
  · exact Nat.zero_le _
  · injection hv with _ _ hc; omega
theorem own_some {w : World} {base : Nat} {e : TypeId} {sz n c : Nat} {A : Option Addr} {xs : List Value} (h : w.ownsRow base e sz (.slice A n c) n xs) (hn : 0 < n) : ∃ g, A = some ⟨g, 0, none⟩ ∧ base ≤ g ∧ g < w.heap.size := by
  rcases h.2 with ⟨hv, rfl⟩ | ⟨g, cap, cur, hv, hb, hg, _⟩
  · omega
  · injection hv with hA _ _
    exact ⟨g, hA, hb, (Array.getElem?_eq_some_iff.1 hg).1⟩
theorem own_up {w w' : World} {base : Nat} {e : TypeId} {sz n : Nat} {v : Value} {xs : List Value} (h : w.ownsRow base e sz v n xs) (hu : Up w w') : w'.ownsRow base e sz v n xs := by
  refine ⟨h.1, ?_⟩
  rcases h.2 with h2 | ⟨g, cap, cur, hv, hg, hh, r⟩
  · exact .inl h2
  · exact .inr ⟨g, cap, cur, hv, hg, (hu.block g (Array.getElem?_eq_some_iff.1 hh).1).trans hh, r⟩
theorem own_base {w : World} {base base' : Nat} {e : TypeId} {sz n : Nat} {v : Value} {xs : List Value} (h : w.ownsRow base e sz v n xs) (hb : base' ≤ base) : w.ownsRow base' e sz v n xs := by
  refine ⟨h.1, ?_⟩
  rcases h.2 with h2 | ⟨g, cap, cur, hv, hg, r⟩
  · exact .inl h2
  · exact .inr ⟨g, cap, cur, hv, by omega, r⟩

/-! ### Bytes, numbers -/
def bv (b : UInt8) : Value := .int .u8 (b.toNat : Int)
def qv (n : UInt64) : Value := .int .u64 (n.toNat : Int)
def iv (n : Int64) : Value := .int .i64 n.toInt
def bvs (l : List UInt8) : List Value := l.map bv
def qvs (l : List UInt64) : List Value := l.map qv
theorem bvs_length (l : List UInt8) : (bvs l).length = l.length := by simp [bvs]
theorem qvs_length (l : List UInt64) : (qvs l).length = l.length := by simp [qvs]
theorem bvs_append (a b : List UInt8) : bvs (a ++ b) = bvs a ++ bvs b := by simp [bvs]
theorem qvs_append (a b : List UInt64) : qvs (a ++ b) = qvs a ++ qvs b := by simp [qvs]
theorem bvs_one (l : List UInt8) : ∀ u ∈ bvs l, u.oneCell' = true := by
  intro u hu; simp only [bvs, List.mem_map] at hu; obtain ⟨b, _, rfl⟩ := hu; rfl
theorem qvs_one (l : List UInt64) : ∀ u ∈ qvs l, u.oneCell' = true := by
  intro u hu; simp only [qvs, List.mem_map] at hu; obtain ⟨b, _, rfl⟩ := hu; rfl
theorem bv_ofNat (n : Nat) : bv (UInt8.ofNat n) = .int .u8 ((n % 256 : Nat) : Int) := by simp [bv]
theorem qv_ofNat (n : Nat) : qv (UInt64.ofNat n) = .int .u64 ((n % 18446744073709551616 : Nat) : Int) := by simp [qv]

/-- a text as a value -/
def str (l : List UInt8) : Value := .string ⟨l.toArray⟩

/-! ### append onto a row of the call's own -/
/-- what is known of a slice type: its elements' cells and bytes -/
structure SlT (P : Program) (t e : TypeId) (sz bytes : Nat) : Prop where
  ut : P.underlying t = some (.slice e)
  inf : ∃ i z, P.info? e = some i ∧ i.zero = some z ∧ i.size = sz ∧ i.bytes = bytes ∧ z.cells.size = sz
  pos : 0 < sz

theorem SlT.mk' {P : Program} {t e : TypeId} {sz bytes : Nat} {z : Value} (h : P.underlying t = some (.slice e)) (hi : (P.info? e).map (fun i => (i.zero, i.size, i.bytes)) = some (some z, sz, bytes)) (hz : z.cells.size = sz) (hs : 0 < sz) : SlT P t e sz bytes := by
  obtain ⟨i, h1, h2, h3, h4⟩ := info_parts hi
  exact ⟨h, ⟨i, z, h1, h2, h3, h4, hz⟩, hs⟩

section
variable {P : Program} (w : World)
theorem run_append_rd {t e : TypeId} {sz bytes : Nat} (hT : SlT P t e sz bytes) (ty : TypeId) {base n B m c : Nat} {v : Value} {xs news : List Value} {A : Option Addr}
    (hown : w.ownsRow base e sz v n xs) (hr : Rd w B sz A m news) (h1 : ∀ u ∈ news, u.oneCell' = true)
    (hb : n + m ≤ 4611686018427387903) (hbytes : (n + m) * bytes ≤ 140737488355328) (hbase : base ≤ w.heap.size) :
    ∃ v' w', (Builtin.append_ #[t, t] ty #[v, .slice A m c]).run P w = .ok v' w' ∧ w'.ownsRow base e sz v' (n + m) (xs ++ news) ∧ w.grownBy w' v.ownBlock ∧
      (v'.ownBlock = v.ownBlock ∨ v'.ownBlock = some w.heap.size) := by
  obtain ⟨ht, ⟨i, z, hi, hz, hsize, hby, hzs⟩, hsz⟩ := hT
  have h63 : n + m ≤ maxLen := by simp only [maxLen]; omega
  rcases A with _ | ad
  · have hm : m = 0 := by
      rcases Nat.eq_zero_or_pos m with h0 | h0
      · exact h0
      · obtain ⟨b, o, h, _⟩ := hr.2 h0
        cases h
    subst hm
    have hn : news = [] := List.eq_nil_of_length_eq_zero (by simpa using hr.1)
    subst hn
    refine ⟨v, w, ?_, by simpa using hown, ⟨rfl, rfl, rfl, Nat.le_refl _, fun _ _ _ => rfl⟩, .inl rfl⟩
    rcases hown.2 with ⟨rfl, rfl⟩ | ⟨g, cap, cur, rfl, _, _, hnc, _⟩
    · simp [Builtin.append_, run_underlying ht, sizeOf, typeInfo, hi, Builtin.lenOf, Builtin.firstCells]
    · simp [Builtin.append_, run_underlying ht, sizeOf, typeInfo, hi, Builtin.lenOf, Builtin.firstCells, hnc, storeCells]
  · have hcells : ∀ j u, news[j]? = some u → w.cell? (ad.add j) = some u := by
      intro j u hu
      rcases Nat.eq_zero_or_pos m with h0 | h0
      · subst h0
        have hn : news = [] := List.eq_nil_of_length_eq_zero (by simpa using hr.1)
        subst hn
        simp at hu
      · obtain ⟨b, o, h, _, hc⟩ := hr.2 h0
        injection h with h
        subst h
        have e : (⟨b, o, none⟩ : Addr).add j = ⟨b, o + j, none⟩ := by unfold Addr.add; split <;> simp_all
        rw [e]
        exact hc j u hu
    obtain ⟨v', w', hrun, h2, h3, _, h5⟩ := run_append_own_at (P := P) w base t ty e i z sz bytes ht hi hz hsize hby hzs hsz v n xs hown ad m c news hr.1 hcells h1 h63 hbytes hbase
    exact ⟨v', w', hrun, h2, h3, h5⟩

theorem wp_append_rd {o : Oper} {a : Act} {K : Act → World → Prop} {Q : Exit → Act → World → Prop} (s x : Operand) {t e : TypeId} {sz bytes : Nat} (hT : SlT P t e sz bytes)
    (ho : o.op = .call { callee := .builtin .append, args := #[s, x], argTypes := #[t, t] })
    {base n B m c : Nat} {v : Value} {xs news : List Value} {A : Option Addr} (hs : a.eval s = v) (hx : a.eval x = .slice A m c)
    (hown : w.ownsRow base e sz v n xs) (hr : Rd w B sz A m news) (h1 : ∀ u ∈ news, u.oneCell' = true)
    (hb : n + m ≤ 4611686018427387903) (hbytes : (n + m) * bytes ≤ 140737488355328) (hbase : base ≤ w.heap.size)
    (h : ∀ v' w', w'.ownsRow base e sz v' (n + m) (xs ++ news) → w.grownBy w' v.ownBlock → (v'.ownBlock = v.ownBlock ∨ v'.ownBlock = some w.heap.size) → K (a.put o.dst v') w') : o.wp P a w K Q := by
  obtain ⟨v', w', hrun, h2, h3, h4⟩ := run_append_rd (P := P) w hT o.type (c := c) hown hr h1 hb hbytes hbase
  unfold Oper.wp execOp
  simp only [ho, resolve, invoke, builtin, Sem.run_bind, Sem.run_pure, Result.andThen_ok, List.map_toArray, List.map_cons, List.map_nil, hs, hx, hrun]
  exact h v' w' h2 h3 h4

/-- 'append(s, x...)', s a row of the call's own. The order of what is asked: hT, the bounds of what is owned and what is read. -/
theorem wpList_append_rd {ops : Array Oper} {rest : List Oper} {o : Oper} {a : Act} {Q : Exit → Act → World → Prop} {s x : Operand} {t e : TypeId} {sz bytes : Nat} (hT : SlT P t e sz bytes)
    {base n B m c : Nat} {v : Value} {xs news : List Value} {A : Option Addr}
    (hown : w.ownsRow base e sz v n xs) (hr : Rd w B sz A m news) (h1 : ∀ u ∈ news, u.oneCell' = true)
    (hb : n + m ≤ 4611686018427387903) (hbytes : (n + m) * bytes ≤ 140737488355328) (hbase : base ≤ w.heap.size)
    (hgd : o.guard = none)
    (ho : o.op = .call { callee := .builtin .append, args := #[s, x], argTypes := #[t, t] })
    (hs : a.eval s = v) (hx : a.eval x = .slice A m c)
    (h : ∀ v' w', w'.ownsRow base e sz v' (n + m) (xs ++ news) → w.grownBy w' v.ownBlock → (v'.ownBlock = v.ownBlock ∨ v'.ownBlock = some w.heap.size) → wpList P ops Q rest (a.put o.dst v') w') : wpList P ops Q (o :: rest) a w :=
  wpList_plain hgd fun _ hK => wp_append_rd w s x hT ho hs hx hown hr h1 hb hbytes hbase fun v' w' h2 h3 h4 => hK _ _ (h v' w' h2 h3 h4)
end

/-- where s[k:] begins: kept shut in the walk -/
def cutA (A : Option Addr) (c k sz : Nat) : Option Addr := if c = k then A else A.map (·.add (k * sz))
theorem Rd.from_ownsRow {w : World} {base : Nat} {e : TypeId} {sz n : Nat} {v : Value} {xs : List Value} (h : w.ownsRow base e sz v n xs) : ∃ A c, v = .slice A n c ∧ Rd w w.heap.size sz A n xs := by
  rcases h.2 with ⟨rfl, rfl⟩ | ⟨g, cap, cur, rfl, _⟩
  · exact ⟨none, 0, rfl, Rd.own h⟩
  · exact ⟨_, _, rfl, Rd.own h⟩

theorem below_sets {B : Nat} {a : World} (b : Nat) (hb : B ≤ b) : ∀ (vs : List Value) (o : Nat) (w : World), Below B a w → Below B a (w.setCells b o vs)
  | [], _, _, h => h
  | v :: vs, o, w, h => below_sets b hb vs (o + 1) _ (Below.setCell (p := ⟨b, o, none⟩) h hb v)

/-- 'append(s[k:], x...)', s a row of the call's own: what it comes to reads so; of what was there only that row's spare places may have turned. -/
theorem wpList_append_cut {P : Program} (w : World) {ops : Array Oper} {rest : List Oper} {o : Oper} {a : Act} {Q : Exit → Act → World → Prop} {s x : Operand} {t e : TypeId} {sz bytes : Nat} (hT : SlT P t e sz bytes)
    {base n k B m c c2 : Nat} {xs news : List Value} {A A2 : Option Addr} (hown : w.ownsRow base e sz (.slice A n c) n xs) (hk : k ≤ n) (hr : Rd w B sz A2 m news) (hm : 0 < m) (h1 : ∀ u ∈ news, u.oneCell' = true)
    (hb : n + m ≤ 4611686018427387903) (hbytes : (n + m) * bytes ≤ 140737488355328) (hbase : base ≤ w.heap.size)
    (hgd : o.guard = none) (ho : o.op = .call { callee := .builtin .append, args := #[s, x], argTypes := #[t, t] })
    (hs : a.eval s = .slice (cutA A c k sz) (n - k) (c - k)) (hx : a.eval x = .slice A2 m c2)
    (h : ∀ A' c' w', Rd w' w'.heap.size sz A' (n - k + m) (xs.drop (k * sz) ++ news) → n - k + m ≤ c' → Below base w w' → wpList P ops Q rest (a.put o.dst (.slice A' (n - k + m) c')) w') : wpList P ops Q (o :: rest) a w := by
  obtain ⟨b2, o2, rfl, hb2, hc2⟩ := hr.2 hm
  have hbb : (n - k + m) * bytes ≤ 140737488355328 := Nat.le_trans (Nat.mul_le_mul_right _ (by omega)) hbytes
  have hnews : ∀ j u, news[j]? = some u → w.cell? ((⟨b2, o2, none⟩ : Addr).add j) = some u := fun j u hu => by
    have e : (⟨b2, o2, none⟩ : Addr).add j = ⟨b2, o2 + j, none⟩ := by unfold Addr.add; split <;> simp_all
    rw [e]; exact hc2 j u hu
  rcases hown.2 with ⟨hv, rfl⟩ | ⟨g, cap, cur, hv, hbg, hh, hnc, hcm, hcs, htake⟩
  · injection hv with hA _ hc
    subst hA; subst hc
    obtain rfl : k = 0 := by omega
    have hxs : xs = [] := List.eq_nil_of_length_eq_zero (by simpa using hown.1)
    subst hxs
    refine wpList_append_rd w hT (World.ownsRow_nil w w.heap.size e sz) hr h1 (by omega) (by simpa using hbb) (Nat.le_refl _) hgd ho (by rw [hs]; simp [cutA]) hx fun v' w' ho' hg' hat' => ?_
    obtain ⟨A', c', rfl, hrd⟩ := Rd.from_ownsRow ho'
    exact h A' c' w' (by simpa using hrd) (by have := own_cap ho'; omega) ((Below.refl base w).grown hg' hbase (by simp [Value.ownBlock]))
  · injection hv with hA _ hc
    subst hA; subst hc
    obtain ⟨ht, ⟨i, z, hi, hz, hsize, hby, hzs⟩, hsz⟩ := hT
    have hlen := hown.1
    have holds : ∀ off, off = (if c = k then 0 else k * sz) → ∀ j u, (xs.drop (k * sz))[j]? = some u → w.cell? ⟨g, off + j, none⟩ = some u := by
      intro off hoff j u hu
      rw [List.getElem?_drop] at hu
      have hjl := (List.getElem?_eq_some_iff.1 hu).1
      by_cases hck : c = k
      · have : k = n := by omega
        subst this; rw [hlen] at hjl; omega
      · rw [hoff, if_neg hck, hown.cellAt _ (by rw [← hlen]; exact hjl)]; exact hu
    have hcut : cutA (some ⟨g, 0, none⟩) c k sz = some ⟨g, if c = k then 0 else k * sz, none⟩ := by
      unfold cutA
      by_cases hck : c = k
      · simp [hck]
      · rw [if_neg hck, if_neg hck]
        simp only [Option.map_some, Addr.add]
        split
        · rename_i h0; simp [h0]
        · simp
    refine wpList_append_arg w hgd s x t ho e i z sz bytes ht hi hz hsize hby hzs hsz g (if c = k then 0 else k * sz) (n - k) (c - k) (xs.drop (k * sz)) (by rw [hs, hcut]) (by rw [List.length_drop, hlen, Nat.sub_mul]) (holds _ rfl)
      ⟨b2, o2, none⟩ m c2 news hx hr.1 hnews h1 ?_ (by simp only [maxLen]; omega) hbb ?_ ?_
    · intro hroom j hj
      have hck : ¬ c = k := by omega
      rw [if_neg hck]
      have e1 : k * sz + (n - k) * sz = n * sz := by rw [← Nat.add_mul]; congr 1; omega
      rw [e1]
      have hfit : n * sz + j < cur.size := by
        rw [hcs]
        have : (n + m) * sz ≤ c * sz := Nat.mul_le_mul_right _ (by omega)
        rw [Nat.add_mul] at this
        rw [hr.1] at hj; omega
      exact ⟨by rw [cell_of_row w g _ cur e (0, 0) hh]; simp [hfit], frozen_of_row w g _ cur e hh⟩
    · intro hroom
      have hck : ¬ c = k := by omega
      rw [if_neg hck]
      have e1 : k * sz + (n - k) * sz = n * sz := by rw [← Nat.add_mul]; congr 1; omega
      rw [e1]
      refine h _ _ _ ?_ (by omega) ?_
      · have hfit : n * sz + news.length ≤ cur.size := by
          rw [hcs, hr.1, ← Nat.add_mul]; exact Nat.mul_le_mul_right _ (by omega)
        refine ⟨by rw [List.length_append, List.length_drop, hlen, hr.1, Nat.add_mul, Nat.sub_mul], fun _ => ⟨g, k * sz, rfl, ?_, fun j u hu => ?_⟩⟩
        · exact Nat.lt_of_lt_of_le (Array.getElem?_eq_some_iff.1 hh).1 (below_sets g hbg news (n * sz) w (Below.refl base w)).size
        · rw [List.getElem?_append] at hu
          have hl : (xs.drop (k * sz)).length = n * sz - k * sz := by rw [List.length_drop, hlen]
          have hks : k * sz ≤ n * sz := Nat.mul_le_mul_right _ hk
          rw [hl] at hu
          by_cases hj : j < n * sz - k * sz
          · rw [if_pos hj, List.getElem?_drop] at hu
            rw [World.cell?_setCells_out g news (n * sz) w ⟨g, k * sz + j, none⟩ (fun _ _ => .inl (by simp only; omega))]
            rw [hown.cellAt _ (by omega)]; exact hu
          · rw [if_neg hj] at hu
            have e2 : k * sz + j = n * sz + (j - (n * sz - k * sz)) := by omega
            rw [e2]
            obtain ⟨hjn, hjv⟩ := List.getElem?_eq_some_iff.1 hu
            rw [World.cell?_setCells_in g news (n * sz) w (fun i hi => by rw [cell_of_row w g _ cur e (0, 0) hh]; simp; omega) _ hjn, ← hjv]
      · exact below_sets g hbg news _ _ (Below.refl base w)
    · intro hgrow v' w' ho' hg'
      obtain ⟨A', c', rfl, hrd⟩ := Rd.from_ownsRow ho'
      exact h A' c' w' hrd (own_cap ho') ((Below.refl base w).grown hg' hbase (by simp))

/-! ### Bytes of the call's own; texts -/
theorem bytesT : SlT Try.prog 31 5 1 1 := SlT.mk' Try.underlying31 (z := .int .u8 0) (by kernel_rfl) rfl (by decide)

/-- the slice is a row of the call's own (blocks from base on) that holds these bytes -/
def OwnB (w : World) (base : Nat) (A : Option Addr) (n c : Nat) (l : List UInt8) : Prop := w.ownsRow base 5 1 (.slice A n c) n (bvs l)
section
variable {w w' : World} {base n c : Nat} {A : Option Addr} {l : List UInt8} {q : List UInt64}
theorem OwnB.rd (h : OwnB w base A n c l) : Rd w w.heap.size 1 A n (bvs l) := Rd.own h
theorem OwnB.len (h : OwnB w base A n c l) : n = l.length := by have := h.1; simp only [bvs_length] at this; omega
theorem OwnB.up (h : OwnB w base A n c l) (hu : Up w w') : OwnB w' base A n c l := own_up h hu
theorem OwnB.cap (h : OwnB w base A n c l) : n ≤ c := own_cap h
theorem Rd.blen (h : Rd w base 1 A n (bvs l)) : n = l.length := by have := h.1; simp only [bvs_length] at this; omega
theorem Rd.qlen (h : Rd w base 1 A n (qvs q)) : n = q.length := by have := h.1; simp only [qvs_length] at this; omega
theorem Rd.byte (h : Rd w base 1 A n (bvs l)) {k : Nat} (hk : k < n) :
    ∃ b o, A = some ⟨b, o, none⟩ ∧ b < base ∧ w.cell? ⟨b, o + k, none⟩ = some (.int .u8 ((l.getD k 0).toNat : Int)) := by
  obtain ⟨b, o, e, hb, hc⟩ := h.2 (by omega)
  have hl : k < l.length := by have := h.blen; omega
  exact ⟨b, o, e, hb, hc k _ (by simp [bvs, bv, hl, List.getD])⟩
theorem Rd.num (h : Rd w base 1 A n (qvs q)) {k : Nat} (hk : k < n) :
    ∃ b o, A = some ⟨b, o, none⟩ ∧ b < base ∧ w.cell? ⟨b, o + k, none⟩ = some (.int .u64 ((q.getD k 0).toNat : Int)) := by
  obtain ⟨b, o, e, hb, hc⟩ := h.2 (by omega)
  have hl : k < q.length := by have := h.qlen; omega
  exact ⟨b, o, e, hb, hc k _ (by simp [qvs, qv, hl, List.getD])⟩
/-- numbers without sign as cells -/
def nvs (l : List Nat) : List Value := l.map fun (n : Nat) => Value.int .u64 (n : Int)
theorem nvs_length (l : List Nat) : (nvs l).length = l.length := by simp [nvs]
theorem Rd.nat {q : List Nat} (h : Rd w base 1 A n (nvs q)) {k : Nat} (hk : k < n) :
    ∃ b o, A = some ⟨b, o, none⟩ ∧ b < base ∧ w.cell? ⟨b, o + k, none⟩ = some (.int .u64 ((q.getD k 0 : Nat) : Int)) := by
  obtain ⟨b, o, e, hb, hc⟩ := h.2 (by omega)
  have hl : k < q.length := by have := h.1; rw [nvs_length] at this; omega
  exact ⟨b, o, e, hb, hc k _ (by simp [nvs, hl, List.getD])⟩
/-- s[k:] of bytes -/
theorem Rd.bfrom (h : Rd w base 1 A n (bvs l)) {k cap : Nat} (hk : k ≤ n) (hc : n ≤ cap) : Rd w base 1 (cutA A cap k 1) (n - k) (bvs (l.drop k)) := by
  have := h.from_ hk hc
  rw [Nat.mul_one] at this
  simpa [bvs, List.map_drop, cutA] using this
theorem Rd.bto (h : Rd w base 1 A n (bvs l)) {k : Nat} (hk : k ≤ n) : Rd w base 1 A k (bvs (l.take k)) := by
  have := h.to_ hk
  simpa [bvs, List.map_take] using this
end

theorem sizeOf_b (w : World) : (sizeOf 5).run Try.prog w = .ok 1 w := by
  obtain ⟨_, ⟨i, z, hi, _, hs, _⟩, _⟩ := bytesT
  simp [sizeOf, typeInfo, hi, hs]
theorem elem_b : Try.prog.elem 31 = 5 := by kernel_rfl
/-- s[l:] and s[l:h] of bytes, the beginning kept shut -/
theorem cut_from_b (w : World) (A : Option Addr) (n c : Nat) (kl : IntKind) (l : Int) (h0 : 0 ≤ l) (h1 : l ≤ n) :
    (Instr.slice 31 (.slice A n c) (some (.int kl l)) none none).run Try.prog w = .ok (.slice (cutA A c l.toNat 1) (n - l.toNat) (c - l.toNat)) w := by
  rw [run_slice_l w 31 A n c (by rw [elem_b]; exact Try.underlying31) kl l h0 h1, elem_b, sizeOf_b]
  simp [sliced, cutA]
theorem cut_lh_b (w : World) (A : Option Addr) (n c : Nat) (kl kh : IntKind) (l h : Int) (h0 : 0 ≤ l) (h1 : l ≤ h) (h2 : h ≤ c) :
    (Instr.slice 31 (.slice A n c) (some (.int kl l)) (some (.int kh h)) none).run Try.prog w = .ok (.slice (cutA A c l.toNat 1) (h.toNat - l.toNat) (c - l.toNat)) w := by
  rw [run_slice_lh w 31 A n c (by rw [elem_b]; exact Try.underlying31) kl kh l h h0 h1 h2, elem_b, sizeOf_b]
  simp [sliced, cutA]

/-- make([]byte, n) -/
def zb (n : Nat) : Array Value := (bvs (List.replicate n 0)).toArray
theorem zb_own (w : World) {base n : Nat} (hb : base ≤ w.heap.size) (hm : n ≤ 9223372036854775807) : OwnB (w.alloc (.cells (zb n) 5)) base (some ⟨w.heap.size, 0, none⟩) n n (List.replicate n 0) := by
  refine ⟨by simp [bvs], .inr ⟨w.heap.size, n, zb n, rfl, hb, heap_alloc_new w _, Nat.le_refl _, by simpa only [maxLen] using hm, by simp [zb, bvs], ?_⟩⟩
  simp [zb, bvs]
set_option maxRecDepth 100000 in
theorem make_b (w : World) (kl kc : IntKind) (l : Int) (h0 : 0 ≤ l) (h1 : l ≤ 140737488355328) :
    (Instr.makeSlice 31 (.int kl l) (.int kc l)).run Try.prog w = .ok (.slice (some ⟨w.heap.size, 0, none⟩) l.toNat l.toNat) (w.alloc (.cells (zb l.toNat) 5)) := by
  obtain ⟨i, hi, hz, hs, hby⟩ := info_parts (P := Try.prog) (e := 5) (z := .int .u8 0) (size := 1) (bytes := 1) (by kernel_rfl)
  rw [run_make w _ _ i _ bytesT.ut hi hz kl kc l l h0 (Int.le_refl _) (by rw [hby]; omega) (by omega)]
  congr 3
  apply Array.toList_inj.1
  rw [hs, Nat.mul_one]
  show (madeCells #[Value.int .u8 0] l.toNat).toList = _
  rw [toList_madeCells_one]
  simp [zb, bvs, bv]
/-- string(b) -/
theorem run_str {w : World} {B n : Nat} {A : Option Addr} {l : List UInt8} (c : Nat) (h : Rd w B 1 A n (bvs l)) : (convert 31 9 (.slice A n c)).run Try.prog w = .ok (.string ⟨l.toArray⟩) w := by
  have hn := h.blen
  subst hn
  by_cases h0 : 0 < l.length
  · obtain ⟨b, o, rfl, _, hc⟩ := h.2 h0
    refine run_convert_bytes_back w _ _ _ _ c l Try.underlying31 Try.underlying5 Try.underlying9 (fun j hj => ?_)
    have e : (⟨b, o, none⟩ : Addr).add j = ⟨b, o + j, none⟩ := by unfold Addr.add; split <;> simp_all
    rw [e]
    exact hc j _ (by simp [bvs, bv, hj])
  · have hl : l = [] := List.eq_nil_of_length_eq_zero (by omega)
    subst hl
    cases A with
    | none => exact run_convert_bytes_nil w _ _ Try.underlying31 Try.underlying5 0 c _ Try.underlying9
    | some a => exact run_convert_bytes_back w _ _ _ a c [] Try.underlying31 Try.underlying5 Try.underlying9 (fun j hj => by simp at hj)

/-- one new block, read from its head -/
theorem Rd.made (w : World) (cs : Array Value) (t : TypeId) {sz n : Nat} (hn : cs.size = n * sz) : Rd (w.alloc (.cells cs t)) (w.alloc (.cells cs t)).heap.size sz (some ⟨w.heap.size, 0, none⟩) n cs.toList := by
  refine ⟨by simpa using hn, fun _ => ⟨w.heap.size, 0, rfl, by simp, fun j v hj => ?_⟩⟩
  rw [World.cell?_alloc_at (w := w) cs t _ _ rfl]
  simpa using hj
/-- one value, boxed: 'append(s, u)' -/
theorem Rd.box (w : World) (u : Value) (t : TypeId) : Rd (w.alloc (.cells #[u] t)) (w.alloc (.cells #[u] t)).heap.size 1 (some ⟨w.heap.size, 0, none⟩) 1 [u] := Rd.made w #[u] t rfl
theorem Rd.boxb (w : World) {u : Value} (t : TypeId) {b : UInt8} (h : u = bv b) : Rd (w.alloc (.cells #[u] t)) (w.alloc (.cells #[u] t)).heap.size 1 (some ⟨w.heap.size, 0, none⟩) 1 (bvs [b]) := by subst h; exact Rd.box w _ t
theorem Rd.boxq (w : World) {u : Value} (t : TypeId) {b : UInt64} (h : u = qv b) : Rd (w.alloc (.cells #[u] t)) (w.alloc (.cells #[u] t)).heap.size 1 (some ⟨w.heap.size, 0, none⟩) 1 (qvs [b]) := by subst h; exact Rd.box w _ t
theorem Rd.boxb_at (w : World) {u : Value} (t : TypeId) {b : UInt8} {g : Nat} (hg : w.heap.size = g) (h : u = bv b) : Rd (w.alloc (.cells #[u] t)) (w.alloc (.cells #[u] t)).heap.size 1 (some ⟨g, 0, none⟩) 1 (bvs [b]) := by subst hg; exact Rd.boxb w t h
/-- a literal of bytes -/
theorem Rd.lit (w : World) (l : List UInt8) (cs : Array Value) (t : TypeId) (h : cs.toList = bvs l) : Rd (w.alloc (.cells cs t)) (w.alloc (.cells cs t)).heap.size 1 (some ⟨w.heap.size, 0, none⟩) l.length (bvs l) := by
  rw [← h]
  exact Rd.made w cs t (by have := congrArg List.length h; simpa [bvs] using this)
theorem Rd.lit_at (w : World) (l : List UInt8) (cs : Array Value) (t : TypeId) {g : Nat} (hg : w.heap.size = g) (h : cs.toList = bvs l) : Rd (w.alloc (.cells cs t)) (w.alloc (.cells cs t)).heap.size 1 (some ⟨g, 0, none⟩) l.length (bvs l) := by subst hg; exact Rd.lit w l cs t h

/-- a whole number's lowest byte -/
def byteOf (z : Int) : UInt8 := UInt8.ofNat (z % 256).toNat
theorem bv_byteOf (z : Int) : bv (byteOf z) = .int .u8 (z % 256) := by
  unfold byteOf; rw [bv_ofNat]; congr 1; omega
/-- a slice and what it holds -/
structure Pt where
  A : Option Addr
  n : Nat
  c : Nat
  l : List UInt8
def Pt.v (p : Pt) : Value := .slice p.A p.n p.c
end Go.Proofs.Ytebhhfmekmpnkaa

/-
  A law for regions that draw their order of evaluation: each operation is looked at once, whatever the order. No program is named here.
-/
namespace Go.Proofs.Ytebhhfmekmpnkaa.Rg
open Go Go.CheckFast Go.RowKit
set_option linter.unusedVariables false

/-! ### Which operation comes before which in every order -/
inductive Pre (ops : Array Oper) : Nat → Nat → Prop
  | edge {i : Nat} {o : Oper} {e : Edge} : ops[i]? = some o → e ∈ o.after → Region.binds .any e = true → Pre ops e.on i
  | more {i p : Nat} {o : Oper} {e : Edge} : ops[i]? = some o → e ∈ o.after → Region.binds .any e = true → Pre ops p e.on → Pre ops p i

def masks : List Oper → List Nat → List Nat
  | [], acc => acc
  | o :: rest, acc => force (one (fun i => acc.getD i 0) o) fun v => masks rest (acc ++ [v])
def maskOf (ops : Array Oper) (i p : Nat) : Bool := ((masks ops.toList []).getD i 0).testBit p

theorem one_bit (look : Nat → Nat) (p : Nat) : ∀ (l : List Edge) (s : Nat), (l.foldl (fun s e => if Region.binds .any e then s ||| 2 ^ e.on ||| look e.on else s) s).testBit p = true →
    s.testBit p = true ∨ ∃ e ∈ l, Region.binds .any e = true ∧ (e.on = p ∨ (look e.on).testBit p = true)
  | [], s, h => .inl h
  | e :: l, s, h => by
    rw [List.foldl_cons] at h
    rcases one_bit look p l _ h with h | ⟨e', he', h'⟩
    · split at h
      · rename_i hb
        rw [Nat.testBit_or, Nat.testBit_or, Bool.or_eq_true, Bool.or_eq_true] at h
        rcases h with (h | h) | h
        · exact .inl h
        · rw [Nat.testBit_two_pow] at h
          exact .inr ⟨e, List.mem_cons_self, hb, .inl (by simpa using h)⟩
        · exact .inr ⟨e, List.mem_cons_self, hb, .inr h⟩
      · exact .inl h
    · exact .inr ⟨e', List.mem_cons_of_mem _ he', h'⟩

theorem masks_pre {ops : Array Oper} : ∀ (rest : List Oper) (acc : List Nat), ops.toList.drop acc.length = rest → (∀ i p, (acc.getD i 0).testBit p = true → Pre ops p i) →
    ∀ i p, ((masks rest acc).getD i 0).testBit p = true → Pre ops p i
  | [], acc, _, h => h
  | o :: rest, acc, hr, h => by
    rw [masks, force_eq]
    have hlt : acc.length < ops.toList.length := by
      rcases Nat.lt_or_ge acc.length ops.toList.length with h' | h'
      · exact h'
      · rw [List.drop_eq_nil_of_le h'] at hr; cases hr
    have ho : ops.toList[acc.length]? = some o := by
      have := congrArg List.head? hr
      rwa [List.head?_drop, List.head?_cons] at this
    refine masks_pre rest _ ?_ ?_
    · rw [List.length_append, List.length_singleton, ← List.drop_drop, hr]; rfl
    · intro i p hb
      rw [List.getD_eq_getElem?_getD, List.getElem?_append] at hb
      split at hb
      · exact h i p (by rw [List.getD_eq_getElem?_getD]; exact hb)
      · rename_i hge
        by_cases he : i = acc.length
        · subst he
          rw [Nat.sub_self] at hb
          have hb' : (one (fun i => acc.getD i 0) o).testBit p = true := hb
          unfold one at hb'
          rw [← Array.foldl_toList] at hb'
          rcases one_bit (fun i => acc.getD i 0) p o.after.toList 0 hb' with h0 | ⟨e, hm, hbd, hp⟩
          · simp at h0
          · have hm' : e ∈ o.after := by simpa using hm
            have ho' : ops[acc.length]? = some o := by simpa using ho
            rcases hp with rfl | hp
            · exact .edge ho' hm' hbd
            · exact .more ho' hm' hbd (h _ _ hp)
        · have : ([one (fun i => acc.getD i 0) o] : List Nat)[i - acc.length]? = none := by
            apply List.getElem?_eq_none; simp; omega
          rw [this] at hb; simp at hb

theorem pre_of {ops : Array Oper} {i p : Nat} (h : maskOf ops i p = true) : Pre ops p i :=
  masks_pre ops.toList [] rfl (fun i p h => by simp at h) i p h

/-! ### What is known of the operations that have come up -/
abbrev Vs := Nat → Value
def upd (vs : Vs) (k : Nat) (v : Value) : Vs := fun i => bif Nat.beq i k then v else vs i
theorem upd_same (vs : Vs) (k : Nat) (v : Value) : upd vs k v k = v := by simp [upd]
theorem upd_ne (vs : Vs) {k i : Nat} (v : Value) (h : i ≠ k) : upd vs k v i = vs i := by
  unfold upd
  cases h' : Nat.beq i k
  · rfl
  · exact absurd (Nat.eq_of_beq_eq_true h') h

/-- w' is w with new blocks, and blocks of X written. -/
structure Keeps (X : Nat → Prop) (w w' : World) : Prop where
  os : w'.os = w.os
  tape : w'.tape = w.tape
  output : w'.output = w.output
  size : w.heap.size ≤ w'.heap.size
  block : ∀ k, k < w.heap.size → ¬ X k → w'.heap[k]? = w.heap[k]?
theorem Keeps.refl (X : Nat → Prop) (w : World) : Keeps X w w := ⟨rfl, rfl, rfl, Nat.le_refl _, fun _ _ _ => rfl⟩
theorem Keeps.up {w w' : World} (h : Keeps (fun _ => False) w w') : Below w.heap.size w w' := ⟨h.os, h.tape, h.output, h.size, fun k hk => h.block k hk id⟩
theorem Keeps.of_up {X : Nat → Prop} {w w' : World} (h : Below w.heap.size w w') : Keeps X w w' := ⟨h.os, h.tape, h.output, h.size, fun k hk _ => h.block k hk⟩

/-- the blocks of Y are as they were -/
structure Sta (Y : Nat → Prop) (w w' : World) : Prop where
  size : w.heap.size ≤ w'.heap.size
  block : ∀ g, g < w.heap.size → Y g → w'.heap[g]? = w.heap[g]?

structure Shape where
  idx : Nat
  uses : List Nat
  eats : List Nat
structure Ent where
  idx : Nat
  F : Vs → World → Prop
  own : Vs → Nat → Prop

def Fof : List Ent → Nat → Vs → World → Prop
  | [], _, _, _ => True
  | e :: r, p, vs, w => bif Nat.beq e.idx p then e.F vs w else Fof r p vs w
def Oof : List Ent → Nat → Vs → Nat → Prop
  | [], _, _, _ => False
  | e :: r, p, vs, g => bif Nat.beq e.idx p then e.own vs g else Oof r p vs g

/-- what one operation does at this frame and world: its value and the world behind it meet R -/
def Runs (P : Program) (ops : Array Oper) (o : Oper) (a : Act) (w : World) (R : Value → World → Prop) : Prop :=
  ∀ K : Act → World → Prop, (∀ v w', R v w' → K (a.put o.dst v) w') →
    if Region.wanted o (yielded ops a.tmps) = true then o.wp P a w K (fun _ _ _ => False) else K (a.put o.dst undef) w

def chk (ops : Array Oper) (sh : List Shape) (k : Nat) (uses eats : List Nat) : Bool :=
  uses.all (fun p => (Nat.ble ops.size p || maskOf ops k p) && sh.all fun s => !s.eats.contains p) &&
  eats.all (fun p => uses.contains p && sh.all fun s => !s.uses.contains p || maskOf ops k s.idx)

section
variable (P : Program) (ops : Array Oper) (Q : Exit → Act → World → Prop) (X0 : Nat → Prop) (w0 : World) (S : World → Prop)

inductive ROK : List Oper → Nat → List Shape → List Ent → (Vs → Act) → Prop
  | done {k : Nat} {sh : List Shape} {Γ : List Ent} {b : Vs → Act}
      (h : ∀ vs w, Keeps X0 w0 w → S w → (∀ p, (sh.all fun s => !s.eats.contains p) = true → Fof Γ p vs w) → Q .normal (b vs) w) : ROK [] k sh Γ b
  | val {o : Oper} {rest : List Oper} {k : Nat} {sh : List Shape} {Γ : List Ent} {b : Vs → Act} (v : Value) (uses : List Nat) (hc : chk ops sh k uses [] = true)
      (h : ∀ vs w, Keeps X0 w0 w → S w → (∀ p ∈ uses, Fof Γ p vs w) → Runs P ops o (b vs) w fun v' w' => v' = v ∧ Keeps (fun _ => False) w w')
      (hr : ROK rest (k + 1) (sh ++ [⟨k, uses, []⟩]) Γ (fun vs => (b vs).put o.dst v)) : ROK (o :: rest) k sh Γ b
  | op {o : Oper} {rest : List Oper} {k : Nat} {sh : List Shape} {Γ : List Ent} {b : Vs → Act} (F : Vs → World → Prop) (own : Vs → Nat → Prop) (uses eats : List Nat) (hc : chk ops sh k uses eats = true)
      (hd : ∀ vs vs' : Vs, (∀ i, i = k ∨ maskOf ops k i = true → vs i = vs' i) → F vs = F vs' ∧ own vs = own vs')
      (hs : ∀ vs w w', F vs w → Sta (fun g => (g < w0.heap.size ∧ ¬ X0 g) ∨ own vs g) w w' → F vs w')
      (h : ∀ vs w, Keeps X0 w0 w → S w → (∀ p ∈ uses, Fof Γ p vs w) → Runs P ops o (b vs) w fun v w' =>
        F (upd vs k v) w' ∧ Keeps (fun g => ∃ p ∈ eats, Oof Γ p vs g) w w' ∧ ∀ g, own (upd vs k v) g → g < w'.heap.size ∧ (w.heap.size ≤ g ∨ ∃ p ∈ eats, Oof Γ p vs g))
      (hr : ROK rest (k + 1) (sh ++ [⟨k, uses, eats⟩]) (Γ ++ [⟨k, F, own⟩]) (fun vs => (b vs).put o.dst (vs k))) : ROK (o :: rest) k sh Γ b
end

/-! ### The data behind a proof of ROK -/
inductive OpD where
  | cl (v : Value) (uses : List Nat)
  | opn (F : Vs → World → Prop) (own : Vs → Nat → Prop) (uses eats : List Nat)
def OpD.val : OpD → Nat → Vs → Value
  | .cl v _, _, _ => v
  | .opn _ _ _ _, k, vs => vs k
def OpD.uses : OpD → List Nat
  | .cl _ u => u
  | .opn _ _ u _ => u
def OpD.eats : OpD → List Nat
  | .cl _ _ => []
  | .opn _ _ _ e => e
def OpD.sh (d : OpD) (k : Nat) : Shape := ⟨k, d.uses, d.eats⟩
def OpD.F : OpD → Vs → World → Prop
  | .cl _ _, _, _ => True
  | .opn F _ _ _, vs, w => F vs w
def OpD.own : OpD → Vs → Nat → Prop
  | .cl _ _, _, _ => False
  | .opn _ o _ _, vs, g => o vs g


def ents : List OpD → Nat → List Ent
  | [], _ => []
  | .cl _ _ :: r, k => ents r (k + 1)
  | .opn F own _ _ :: r, k => ⟨k, F, own⟩ :: ents r (k + 1)
def shs : List OpD → Nat → List Shape
  | [], _ => []
  | d :: r, k => d.sh k :: shs r (k + 1)
def dstOf (ops : Array Oper) (k : Nat) : Option Tmp := (ops[k]?).bind (·.dst)
def bGo (ops : Array Oper) (vs : Vs) : List OpD → Nat → Act → Act
  | [], _, a => a
  | d :: r, k, a => bGo ops vs r (k + 1) (a.put (dstOf ops k) (d.val k vs))

theorem ents_append : ∀ (D : List OpD) (E : List OpD) (k : Nat), ents (D ++ E) k = ents D k ++ ents E (k + D.length)
  | [], _, _ => rfl
  | .cl _ _ :: r, E, k => by simp only [List.cons_append, ents, ents_append r E (k + 1), List.length_cons]; rw [Nat.add_right_comm k 1, Nat.add_assoc k]
  | .opn _ _ _ _ :: r, E, k => by simp only [List.cons_append, ents, ents_append r E (k + 1), List.length_cons]; rw [Nat.add_right_comm k 1, Nat.add_assoc k]
theorem shs_append : ∀ (D : List OpD) (E : List OpD) (k : Nat), shs (D ++ E) k = shs D k ++ shs E (k + D.length)
  | [], _, _ => rfl
  | d :: r, E, k => by simp only [List.cons_append, shs, shs_append r E (k + 1), List.length_cons]; rw [Nat.add_right_comm k 1, Nat.add_assoc k]
theorem bGo_append (ops : Array Oper) (vs : Vs) : ∀ (D : List OpD) (E : List OpD) (k : Nat) (a : Act), bGo ops vs (D ++ E) k a = bGo ops vs E (k + D.length) (bGo ops vs D k a)
  | [], _, _, _ => rfl
  | d :: r, E, k, a => by simp only [List.cons_append, bGo, bGo_append ops vs r E (k + 1), List.length_cons]; rw [Nat.add_right_comm k 1, Nat.add_assoc k]

theorem put_size (a : Act) (d : Option Tmp) (v : Value) : (a.put d v).tmps.size = a.tmps.size := by cases d <;> simp [Act.put]
theorem put_defers (a : Act) (d : Option Tmp) (v : Value) : (a.put d v).defers = a.defers := by cases d <;> rfl
theorem put_at (a : Act) (t : Tmp) (v : Value) (h : t < a.tmps.size) : (a.put (some t) v).tmps[t]? = some v := by simp [Act.put, h]
theorem put_other (a : Act) (d : Option Tmp) (t : Tmp) (v : Value) (h : d ≠ some t) : (a.put d v).tmps[t]? = a.tmps[t]? := by
  cases d with
  | none => rfl
  | some e => exact Array.getElem?_setIfInBounds_ne (fun he => h (by rw [he]))
theorem bGo_size (ops : Array Oper) (vs : Vs) : ∀ (D : List OpD) (k : Nat) (a : Act), (bGo ops vs D k a).tmps.size = a.tmps.size
  | [], _, _ => rfl
  | d :: r, k, a => by rw [bGo, bGo_size ops vs r, put_size]
theorem bGo_defers (ops : Array Oper) (vs : Vs) : ∀ (D : List OpD) (k : Nat) (a : Act), (bGo ops vs D k a).defers = a.defers
  | [], _, _ => rfl
  | d :: r, k, a => by rw [bGo, bGo_defers ops vs r, put_defers]
theorem bGo_other (ops : Array Oper) (vs : Vs) (t : Tmp) : ∀ (D : List OpD) (k : Nat) (a : Act), (∀ i, k ≤ i → i < k + D.length → dstOf ops i ≠ some t) → (bGo ops vs D k a).tmps[t]? = a.tmps[t]?
  | [], _, _, _ => rfl
  | d :: r, k, a, h => by
    rw [bGo, bGo_other ops vs t r _ _ (fun i h1 h2 => h i (by omega) (by simp only [List.length_cons]; omega)), put_other _ _ _ _ (h k (Nat.le_refl _) (by simp))]
theorem bGo_at (ops : Array Oper) (vs : Vs) (hdist : ∀ i j t, dstOf ops i = some t → dstOf ops j = some t → i = j) (t : Tmp) (i : Nat) (hi : dstOf ops i = some t) (d : OpD) : ∀ (D : List OpD) (k : Nat) (a : Act), k ≤ i → D[i - k]? = some d → t < a.tmps.size → (bGo ops vs D k a).tmps[t]? = some (d.val i vs)
  | [], k, a, _, h, _ => by simp at h
  | d' :: r, k, a, hk, h, ht => by
    rw [bGo]
    by_cases he : i = k
    · subst he
      rw [Nat.sub_self] at h
      obtain rfl : d' = d := by simpa using h
      rw [bGo_other ops vs t r _ _ (fun j h1 _ hj => by have := hdist _ _ _ hi hj; omega), hi]
      exact put_at _ _ _ ht
    · refine bGo_at ops vs hdist t i hi d r (k + 1) _ (by omega) ?_ (by rw [put_size]; exact ht)
      rw [show i - k = (i - (k + 1)) + 1 by omega] at h
      simpa using h

theorem Fof_append (p : Nat) (vs : Vs) (w : World) : ∀ (Γ Δ : List Ent), Fof (Γ ++ Δ) p vs w → Fof Γ p vs w
  | [], _, _ => trivial
  | e :: r, Δ, h => by
    simp only [List.cons_append, Fof] at h ⊢
    cases hb : Nat.beq e.idx p <;> simp only [hb, cond_true, cond_false] at h ⊢
    · exact Fof_append p vs w r Δ h
    · exact h
theorem Oof_append (p : Nat) (vs : Vs) (g : Nat) : ∀ (Γ Δ : List Ent), Oof Γ p vs g → Oof (Γ ++ Δ) p vs g
  | [], _, h => h.elim
  | e :: r, Δ, h => by
    simp only [List.cons_append, Oof] at h ⊢
    cases hb : Nat.beq e.idx p <;> simp only [hb, cond_true, cond_false] at h ⊢
    · exact Oof_append p vs g r Δ h
    · exact h
theorem Fof_ents (vs : Vs) (w : World) (p : Nat) : ∀ (D : List OpD) (k : Nat), k ≤ p → (Fof (ents D k) p vs w ↔ ∀ d, D[p - k]? = some d → d.F vs w)
  | [], k, _ => by simp [ents, Fof]
  | d :: r, k, hk => by
    by_cases he : p = k
    · subst he
      cases d with
      | cl v u =>
        rw [ents]
        simp only [Nat.sub_self, List.getElem?_cons_zero, Option.some.injEq, forall_eq', OpD.F, iff_true]
        have : ∀ (D : List OpD) (j : Nat), p < j → Fof (ents D j) p vs w := by
          intro D
          induction D with
          | nil => intro j _; trivial
          | cons d r ih =>
            intro j hj
            cases d with
            | cl v u => exact ih _ (by omega)
            | opn F own u e =>
              show (bif Nat.beq j p then F vs w else Fof (ents r (j + 1)) p vs w)
              cases hb : Nat.beq j p
              · exact ih _ (by omega)
              · have := Nat.eq_of_beq_eq_true hb; omega
        exact this r (p + 1) (by omega)
      | opn F own u e =>
        simp [ents, Fof, OpD.F]
    · have hrec := Fof_ents vs w p r (k + 1) (by omega)
      rw [show p - k = (p - (k + 1)) + 1 by omega, List.getElem?_cons_succ, ← hrec]
      cases d with
      | cl v u => rfl
      | opn F own u e =>
        show (bif Nat.beq k p then F vs w else Fof (ents r (k + 1)) p vs w) ↔ _
        cases hb : Nat.beq k p
        · rfl
        · exact absurd (Nat.eq_of_beq_eq_true hb).symm he
theorem Oof_ents (vs : Vs) (g : Nat) (p : Nat) : ∀ (D : List OpD) (k : Nat), k ≤ p → (Oof (ents D k) p vs g ↔ ∃ d, D[p - k]? = some d ∧ d.own vs g)
  | [], k, _ => by simp [ents, Oof]
  | d :: r, k, hk => by
    by_cases he : p = k
    · subst he
      cases d with
      | cl v u =>
        rw [ents]
        simp only [Nat.sub_self, List.getElem?_cons_zero, Option.some.injEq, OpD.own, exists_eq_left', iff_false]
        have : ∀ (D : List OpD) (j : Nat), p < j → ¬ Oof (ents D j) p vs g := by
          intro D
          induction D with
          | nil => intro j _ h; exact h
          | cons d r ih =>
            intro j hj
            cases d with
            | cl v u => exact ih _ (by omega)
            | opn F own u e =>
              show ¬ (bif Nat.beq j p then own vs g else Oof (ents r (j + 1)) p vs g)
              cases hb : Nat.beq j p
              · exact ih _ (by omega)
              · have := Nat.eq_of_beq_eq_true hb; omega
        exact this r (p + 1) (by omega)
      | opn F own u e =>
        simp [ents, Oof, OpD.own]
    · have hrec := Oof_ents vs g p r (k + 1) (by omega)
      rw [show p - k = (p - (k + 1)) + 1 by omega, List.getElem?_cons_succ, ← hrec]
      cases d with
      | cl v u => rfl
      | opn F own u e =>
        show (bif Nat.beq k p then own vs g else Oof (ents r (k + 1)) p vs g) ↔ _
        cases hb : Nat.beq k p
        · rfl
        · exact absurd (Nat.eq_of_beq_eq_true hb).symm he

/-! ### The frame's places that an operation looks at -/
def lookChk (ops : Array Oper) : Bool :=
  (List.range ops.size).all fun i => match ops[i]? with
    | none => true
    | some o => (o.looksAt ops).all fun t => (List.range ops.size).all fun j => !(dstOf ops j == some t) || Nat.beq j i || (Nat.blt j i && maskOf ops i j) || (Nat.blt i j && maskOf ops j i)
def distChk (ops : Array Oper) : Bool :=
  (List.range ops.size).all fun i => (List.range ops.size).all fun j => Nat.beq i j || (match dstOf ops i with | none => true | some t => !(dstOf ops j == some t))
def topoChk (ops : Array Oper) : Bool :=
  (List.range ops.size).all fun i => match ops[i]? with
    | none => true
    | some o => o.after.all fun e => !Region.binds .any e || Nat.blt e.on i
def globChk (ops : Array Oper) : Bool := Region.noSelect ops && lookChk ops && distChk ops && topoChk ops
theorem topo_of {ops : Array Oper} (h : topoChk ops = true) {i : Nat} {o : Oper} (ho : ops[i]? = some o) {e : Edge} (he : e ∈ o.after) (hb : Region.binds .any e = true) : e.on < i := by
  have h1 := List.all_eq_true.1 h i (List.mem_range.2 (Array.getElem?_eq_some_iff.1 ho).1)
  rw [ho] at h1
  have h2 := Array.all_eq_true_iff_forall_mem.1 h1 e he
  simp only [hb, Bool.not_true, Bool.false_or] at h2
  rw [Nat.blt_eq] at h2; exact h2
theorem all_listed {ops : Array Oper} (h : topoChk ops = true) {listed : Array Bool} (hs : listed.size = ops.size) (hr : Region.ready .any ops listed = []) : ∀ i, i < ops.size → listed.getD i false = true := by
  intro i
  induction i using Nat.strongRecOn with
  | _ i ih =>
    intro hi
    cases hl : listed.getD i false
    · exfalso
      have hlt : i < listed.size := by omega
      obtain ⟨o, ho⟩ : ∃ o, ops[i]? = some o := ⟨_, Array.getElem?_eq_getElem hi⟩
      have : i ∈ Region.ready .any ops listed := mem_ready.2 ⟨by simpa [hlt] using hl, o, ho, fun e he hb => by
        have := topo_of h ho he hb
        exact ih _ this (by omega)⟩
      rw [hr] at this; cases this
    · rfl

theorem dstOf_lt {ops : Array Oper} {i : Nat} {t : Tmp} (h : dstOf ops i = some t) : i < ops.size := by
  unfold dstOf at h
  rcases Nat.lt_or_ge i ops.size with h' | h'
  · exact h'
  · rw [Array.getElem?_eq_none h'] at h; cases h
theorem dist_of {ops : Array Oper} (h : distChk ops = true) (i j : Nat) (t : Tmp) (hi : dstOf ops i = some t) (hj : dstOf ops j = some t) : i = j := by
  have h1 := List.all_eq_true.1 (List.all_eq_true.1 h i (List.mem_range.2 (dstOf_lt hi))) j (List.mem_range.2 (dstOf_lt hj))
  rw [hi, hj] at h1
  simpa using h1
theorem look_of {ops : Array Oper} (h : lookChk ops = true) {i : Nat} {o : Oper} (ho : ops[i]? = some o) {t : Tmp} (ht : t ∈ o.looksAt ops) {j : Nat} (hj : dstOf ops j = some t) :
    j = i ∨ (j < i ∧ Pre ops j i) ∨ (i < j ∧ Pre ops i j) := by
  have h1 := List.all_eq_true.1 h i (List.mem_range.2 (Array.getElem?_eq_some_iff.1 ho).1)
  rw [ho] at h1
  have h2 := List.all_eq_true.1 (List.all_eq_true.1 h1 t ht) j (List.mem_range.2 (dstOf_lt hj))
  rw [hj] at h2
  simp only [BEq.rfl, Bool.not_true, Bool.false_or, Bool.or_eq_true, Bool.and_eq_true] at h2
  rcases h2 with (h2 | ⟨h2, h3⟩) | ⟨h2, h3⟩
  · exact .inl (Nat.eq_of_beq_eq_true h2)
  · exact .inr (.inl ⟨(by rw [Nat.blt_eq] at h2; exact h2), pre_of h3⟩)
  · exact .inr (.inr ⟨(by rw [Nat.blt_eq] at h2; exact h2), pre_of h3⟩)

/-! ### One operation at another frame that agrees with the first on what it looks at -/
theorem wp_false {P : Program} {o : Oper} {a : Act} {w : World} {K : Act → World → Prop} {Q : Exit → Act → World → Prop} (h : o.wp P a w K (fun _ _ _ => False)) : o.wp P a w K Q := by
  unfold Oper.wp at *
  generalize (execOp a.eval o).run P w = r at *
  cases r with
  | ok n w' =>
    cases n <;> simp only [Oper.upon] at h ⊢ <;> first
      | exact h
      | exact Calls.mono h (fun e w'' he => by
          cases e with
          | returned v => exact he
          | panicked c => exact he.elim
          | outgrown => obtain ⟨_, _, h⟩ := he; exact h.elim)
  | halt x w' => cases x <;> simp only [Oper.upon] at h ⊢

theorem put_same {a b : Act} (hs : a.tmps.size = b.tmps.size) {d : Option Tmp} {v u : Value} (h : b.put d v = b.put d u) : a.put d v = a.put d u := by
  cases d with
  | none => rfl
  | some t =>
    by_cases ht : t < a.tmps.size
    · have ht' : t < b.tmps.size := by rw [← hs]; exact ht
      have e1 := put_at b t v ht'
      rw [h, put_at b t u ht'] at e1
      injection e1 with e1
      rw [e1]
    · have h0 : ∀ x : Value, a.tmps.setIfInBounds t x = a.tmps := fun x => by rw [Array.setIfInBounds]; simp [ht]
      simp only [Act.put, h0]

theorem wp_move {P : Program} {o : Oper} {a b : Act} {w : World} {R : Value → World → Prop} (hs : a.tmps.size = b.tmps.size) (he : execOp a.eval o = execOp b.eval o)
    (h : o.wp P b w (fun a' w' => ∃ v, a' = b.put o.dst v ∧ R v w') (fun _ _ _ => False)) : o.wp P a w (fun a' w' => ∃ v, a' = a.put o.dst v ∧ R v w') (fun _ _ _ => False) := by
  unfold Oper.wp at *
  rw [he]
  generalize (execOp b.eval o).run P w = r at *
  cases r with
  | ok n w' =>
    cases n <;> simp only [Oper.upon] at h ⊢
    case value v => obtain ⟨u, hu, hR⟩ := h; exact ⟨u, put_same hs hu, hR⟩
    case skip => obtain ⟨u, hu, hR⟩ := h; exact ⟨u, put_same hs hu, hR⟩
    case defer d =>
      obtain ⟨u, hu, hR⟩ := h
      exfalso
      have h1 := congrArg (fun a : Act => a.defers.length) hu
      simp [put_defers] at h1
    case enter f args =>
      refine Calls.mono h fun e w'' he => ?_
      cases e with
      | returned v => obtain ⟨u, hu, hR⟩ := he; exact ⟨u, put_same hs hu, hR⟩
      | panicked c => exact he
      | outgrown => obtain ⟨_, _, h⟩ := he; exact h.elim
    case row row args => exact Rows.mono h fun v w'' ⟨u, hu, hR⟩ => ⟨u, put_same hs hu, hR⟩
  | halt x w' => cases x <;> simp only [Oper.upon] at h ⊢

theorem eval_agree {a b : Act} {x : Operand} (h : ∀ t, x = .tmp t → a.tmps[t]? = b.tmps[t]?) : a.eval x = b.eval x := by
  cases x with
  | tmp t =>
    have := h t rfl
    simp only [Act.eval, Array.getD_eq_getD_getElem?, this]
  | _ => rfl
theorem exec_agree {ops : Array Oper} {o : Oper} (hs : ∀ cs b, o.op ≠ .select cs b) {a b : Act} (h : ∀ t, t ∈ o.looksAt ops → a.tmps[t]? = b.tmps[t]?) : execOp a.eval o = execOp b.eval o :=
  execOp_congr o hs fun x hx => eval_agree fun t ht => h t (by
    subst ht
    exact List.mem_append_left _ (List.mem_filterMap.2 ⟨.tmp t, by simpa using hx, rfl⟩))
theorem wanted_agree {ops : Array Oper} {o : Oper} {a b : Act} (h : ∀ t, t ∈ o.looksAt ops → a.tmps[t]? = b.tmps[t]?) : Region.wanted o (yielded ops a.tmps) = Region.wanted o (yielded ops b.tmps) := by
  unfold Region.wanted
  cases hg : o.guard with
  | none => rfl
  | some gw =>
    obtain ⟨g, want⟩ := gw
    have hy : yielded ops a.tmps g = yielded ops b.tmps g := by
      unfold yielded
      cases ht : (ops[g]?).bind (·.dst) with
      | none => rfl
      | some t =>
        have := h t (by simp [Oper.looksAt, hg, ht])
        simp only [Option.bind_some, this]
    simp only [hy]

/-! ### The law -/
/-- what is asked of operation k, those before it being D -/
def Asked (P : Program) (ops : Array Oper) (X0 : Nat → Prop) (w0 : World) (S : World → Prop) (a0 : Act) (G0 : Ent) (D : List OpD) (k : Nat) (o : Oper) : OpD → Prop
  | .cl v uses => chk ops (shs D 0) k uses [] = true ∧ ∀ vs w, Keeps X0 w0 w → S w → (∀ p ∈ uses, Fof (G0 :: ents D 0) p vs w) →
      Runs P ops o (bGo ops vs D 0 a0) w fun v' w' => v' = v ∧ Keeps (fun _ => False) w w'
  | .opn F own uses eats => chk ops (shs D 0) k uses eats = true ∧
      (∀ vs vs' : Vs, (∀ i, i = k ∨ maskOf ops k i = true → vs i = vs' i) → F vs = F vs' ∧ own vs = own vs') ∧
      (∀ vs w w', F vs w → Sta (fun g => (g < w0.heap.size ∧ ¬ X0 g) ∨ own vs g) w w' → F vs w') ∧
      ∀ vs w, Keeps X0 w0 w → S w → (∀ p ∈ uses, Fof (G0 :: ents D 0) p vs w) → Runs P ops o (bGo ops vs D 0 a0) w fun v w' =>
        F (upd vs k v) w' ∧ Keeps (fun g => ∃ p ∈ eats, Oof (G0 :: ents D 0) p vs g) w w' ∧ ∀ g, own (upd vs k v) g → g < w'.heap.size ∧ (w.heap.size ≤ g ∨ ∃ p ∈ eats, Oof (G0 :: ents D 0) p vs g)

section
variable {P : Program} {ops : Array Oper} {Q : Exit → Act → World → Prop} {X0 : Nat → Prop} {w0 : World} {S : World → Prop}

theorem ROK.data {a0 : Act} {G0 : Ent} {rest : List Oper} {k : Nat} {sh : List Shape} {Γ : List Ent} {b : Vs → Act} (h : ROK P ops Q X0 w0 S rest k sh Γ b) :
    ∀ D : List OpD, D.length = k → k ≤ ops.size → sh = shs D 0 → Γ = G0 :: ents D 0 → (∀ vs, b vs = bGo ops vs D 0 a0) → ops.toList.drop k = rest →
    ∃ E : List OpD, (D ++ E).length = ops.size ∧ (∀ j o d, E[j]? = some d → ops[k + j]? = some o → Asked P ops X0 w0 S a0 G0 (D ++ E.take j) (k + j) o d) ∧
      ∀ vs w, Keeps X0 w0 w → S w → (∀ p, ((shs (D ++ E) 0).all fun s => !s.eats.contains p) = true → Fof (G0 :: ents (D ++ E) 0) p vs w) → Q .normal (bGo ops vs (D ++ E) 0 a0) w := by
  have go : ∀ (o : Oper) (rest : List Oper) (D : List OpD) (d : OpD) (b : Vs → Act), ops.toList.drop D.length = o :: rest → (∀ vs, b vs = bGo ops vs D 0 a0) → Asked P ops X0 w0 S a0 G0 D D.length o d →
      (∀ D', D' = D ++ [d] → (∀ vs, (b vs).put o.dst (d.val D.length vs) = bGo ops vs D' 0 a0) → D.length + 1 ≤ ops.size → ops.toList.drop (D.length + 1) = rest → ∃ E : List OpD, (D' ++ E).length = ops.size ∧ (∀ j o d, E[j]? = some d → ops[D.length + 1 + j]? = some o → Asked P ops X0 w0 S a0 G0 (D' ++ E.take j) (D.length + 1 + j) o d) ∧
        ∀ vs w, Keeps X0 w0 w → S w → (∀ p, ((shs (D' ++ E) 0).all fun s => !s.eats.contains p) = true → Fof (G0 :: ents (D' ++ E) 0) p vs w) → Q .normal (bGo ops vs (D' ++ E) 0 a0) w) →
      ∃ E : List OpD, (D ++ E).length = ops.size ∧ (∀ j o d, E[j]? = some d → ops[D.length + j]? = some o → Asked P ops X0 w0 S a0 G0 (D ++ E.take j) (D.length + j) o d) ∧
        ∀ vs w, Keeps X0 w0 w → S w → (∀ p, ((shs (D ++ E) 0).all fun s => !s.eats.contains p) = true → Fof (G0 :: ents (D ++ E) 0) p vs w) → Q .normal (bGo ops vs (D ++ E) 0 a0) w := by
    intro o rest D d b hr hb hA ih
    have ho : ops.toList[D.length]? = some o := by
      have := congrArg List.head? hr
      rwa [List.head?_drop, List.head?_cons] at this
    have ho' : ops[D.length]? = some o := by simpa using ho
    obtain ⟨E, h1, h2, h3⟩ := ih _ rfl (fun vs => by
        rw [bGo_append, ← hb, Nat.zero_add]
        show _ = (b vs).put (dstOf ops D.length) _
        rw [dstOf, ho']
        rfl) (Array.getElem?_eq_some_iff.1 ho').1 (by rw [← List.drop_drop, hr]; rfl)
    refine ⟨d :: E, by simpa using h1, fun j o' d' hj hoj => ?_, ?_⟩
    · cases j with
      | zero =>
        obtain rfl : d = d' := by simpa using hj
        rw [Nat.add_zero] at hoj ⊢
        rw [ho'] at hoj
        injection hoj with hoj
        subst hoj
        rw [List.take_zero, List.append_nil]
        exact hA
      | succ j =>
        have := h2 j o' d' (by simpa using hj) (by rw [← hoj]; congr 1; omega)
        rw [List.take_succ_cons]
        rw [show D.length + (j + 1) = D.length + 1 + j by omega]
        rwa [List.append_assoc] at this
    · intro vs w hk hS hF
      have e : D ++ d :: E = D ++ [d] ++ E := by rw [List.append_assoc]; rfl
      rw [e] at hF ⊢
      exact h3 vs w hk hS hF
  induction h with
  | done h =>
    rintro D rfl hkl rfl rfl hb hr
    refine ⟨[], ?_, fun j o d hj => by simp at hj, fun vs w hk hS hF => ?_⟩
    · have h1 : ops.toList.length ≤ D.length := List.drop_eq_nil_iff.1 hr
      rw [Array.length_toList] at h1
      rw [List.append_nil]; omega
    · rw [List.append_nil] at hF ⊢
      rw [← hb]
      exact h vs w hk hS hF
  | @val o rest k sh Γ b v uses hc h hr ih =>
    rintro D rfl hkl rfl rfl hb hrest
    refine go o rest D (.cl v uses) b hrest hb ⟨hc, fun vs w hk hS hF => ?_⟩ ?_
    · rw [← hb]; exact h vs w hk hS hF
    · rintro D' rfl hb' hle hr'
      exact ih (D ++ [OpD.cl v uses]) (by simp) hle (by rw [shs_append, Nat.zero_add]; rfl) (by rw [ents_append]; simp [ents]) (fun vs => hb' vs) hr'
  | @op o rest k sh Γ b F own uses eats hc hd hs h hr ih =>
    rintro D rfl hkl rfl rfl hb hrest
    refine go o rest D (.opn F own uses eats) b hrest hb ⟨hc, hd, hs, fun vs w hk hS hF => ?_⟩ ?_
    · rw [← hb]; exact h vs w hk hS hF
    · rintro D' rfl hb' hle hr'
      exact ih (D ++ [OpD.opn F own uses eats]) (by simp) hle (by rw [shs_append, Nat.zero_add]; rfl) (by rw [ents_append]; simp [ents]) (fun vs => hb' vs) hr'

theorem chk_use {sh : List Shape} {k p : Nat} {uses eats : List Nat} (h : chk ops sh k uses eats = true) (hp : p ∈ uses) : (ops.size ≤ p ∨ Pre ops p k) ∧ ∀ s ∈ sh, p ∉ s.eats := by
  simp only [chk, Bool.and_eq_true, List.all_eq_true] at h
  have h1 := h.1 p hp
  simp only [Bool.or_eq_true] at h1
  refine ⟨h1.1.imp (fun h => Nat.le_of_ble_eq_true h) pre_of, fun s hs hm => ?_⟩
  have := h1.2 s hs
  simp [hm] at this
theorem chk_eat {sh : List Shape} {k p : Nat} {uses eats : List Nat} (h : chk ops sh k uses eats = true) (hp : p ∈ eats) : p ∈ uses ∧ ∀ s ∈ sh, p ∈ s.uses → Pre ops s.idx k := by
  simp only [chk, Bool.and_eq_true, List.all_eq_true] at h
  have h1 := h.2 p hp
  refine ⟨by simpa using h1.1, fun s hs hm => ?_⟩
  have := h1.2 s hs
  simp only [Bool.or_eq_true, Bool.not_eq_true'] at this
  rcases this with h' | h'
  · rw [List.contains_eq_mem] at h'; simp [hm] at h'
  · exact pre_of h'
theorem mem_shs {s : Shape} : ∀ (D : List OpD) (k : Nat), s ∈ shs D k ↔ ∃ (j : Nat) (d : OpD), D[j]? = some d ∧ s = d.sh (k + j)
  | [], k => by simp [shs]
  | d :: r, k => by
    rw [shs, List.mem_cons, mem_shs r (k + 1)]
    constructor
    · rintro (rfl | ⟨j, d', hj, rfl⟩)
      · exact ⟨0, d, rfl, rfl⟩
      · exact ⟨j + 1, d', by simpa using hj, by rw [Nat.add_assoc k 1 j, Nat.add_comm 1 j]⟩
    · rintro ⟨j, d', hj, rfl⟩
      cases j with
      | zero => left; simp at hj; rw [hj]; rfl
      | succ j => right; exact ⟨j, d', by simpa using hj, by rw [Nat.add_assoc k 1 j, Nat.add_comm 1 j]⟩

section
variable {a0 : Act} {F0 : World → Prop}

def G0 (ops : Array Oper) (X0 : Nat → Prop) (F0 : World → Prop) : Ent := ⟨ops.size, fun _ => F0, fun _ => X0⟩
/-- what is known of number p, if D is all -/
def FF (ops : Array Oper) (F0 : World → Prop) (D : List OpD) (p : Nat) (vs : Vs) (w : World) : Prop := if p = ops.size then F0 w else ∀ d, D[p]? = some d → d.F vs w
def OO (ops : Array Oper) (X0 : Nat → Prop) (D : List OpD) (p : Nat) (vs : Vs) (g : Nat) : Prop := if p = ops.size then X0 g else ∃ d, D[p]? = some d ∧ d.own vs g
theorem Fof_G0 (D : List OpD) (p : Nat) (vs : Vs) (w : World) : Fof (G0 ops X0 F0 :: ents D 0) p vs w ↔ FF ops F0 D p vs w := by
  unfold FF
  show (bif Nat.beq ops.size p then F0 w else Fof (ents D 0) p vs w) ↔ _
  cases hb : Nat.beq ops.size p
  · rw [if_neg (fun e => by rw [e, Nat.beq_refl] at hb; cases hb)]
    simpa using Fof_ents vs w p D 0 (Nat.zero_le _)
  · rw [if_pos (Nat.eq_of_beq_eq_true hb).symm]; rfl
theorem Oof_G0 (D : List OpD) (p : Nat) (vs : Vs) (g : Nat) : Oof (G0 ops X0 F0 :: ents D 0) p vs g ↔ OO ops X0 D p vs g := by
  unfold OO
  show (bif Nat.beq ops.size p then X0 g else Oof (ents D 0) p vs g) ↔ _
  cases hb : Nat.beq ops.size p
  · rw [if_neg (fun e => by rw [e, Nat.beq_refl] at hb; cases hb)]
    simpa using Oof_ents vs g p D 0 (Nat.zero_le _)
  · rw [if_pos (Nat.eq_of_beq_eq_true hb).symm]; rfl

structure Inv (ops : Array Oper) (X0 : Nat → Prop) (w0 : World) (a0 : Act) (F0 : World → Prop) (D : List OpD) (listed : Array Bool) (a : Act) (w : World) (vs : Vs) : Prop where
  size : listed.size = ops.size
  down : ∀ i p, listed.getD i false = true → Pre ops p i → listed.getD p false = true
  keeps : Keeps X0 w0 w
  defers : a.defers = a0.defers
  tsize : a.tmps.size = a0.tmps.size
  slot : ∀ i t d, listed.getD i false = true → dstOf ops i = some t → t < a0.tmps.size → D[i]? = some d → a.tmps[t]? = some (d.val i vs)
  other : ∀ t, (∀ i, listed.getD i false = true → dstOf ops i ≠ some t) → a.tmps[t]? = a0.tmps[t]?
  fact : ∀ p, (ops.size ≤ p ∨ listed.getD p false = true) → (∀ j d, D[j]? = some d → p ∈ d.eats → listed.getD j false = false) →
    FF ops F0 D p vs w ∧ ∀ g, OO ops X0 D p vs g → g < w.heap.size ∧ ¬ (g < w0.heap.size ∧ ¬ X0 g)
  disj : ∀ p q, (ops.size ≤ p ∨ listed.getD p false = true) → (∀ j d, D[j]? = some d → p ∈ d.eats → listed.getD j false = false) →
    (ops.size ≤ q ∨ listed.getD q false = true) → (∀ j d, D[j]? = some d → q ∈ d.eats → listed.getD j false = false) → p ≠ q → ∀ g, OO ops X0 D p vs g → ¬ OO ops X0 D q vs g

theorem listed_set {listed : Array Bool} {i j : Nat} (h : (listed.setIfInBounds i true).getD j false = true) : j = i ∨ listed.getD j false = true := by
  by_cases hij : i = j
  · exact .inl hij.symm
  · rw [getD_set_ne false hij] at h; exact .inr h
theorem listed_keep {listed : Array Bool} {i j : Nat} (h : (listed.setIfInBounds i true).getD j false = false) : listed.getD j false = false := by
  cases hj : listed.getD j false
  · rfl
  · rw [getD_set_true hj] at h; exact h
theorem take_get {D : List OpD} {i j : Nat} {d : OpD} (h : (D.take i)[j]? = some d) : j < i ∧ D[j]? = some d := by
  rw [List.getElem?_take] at h
  split at h
  · exact ⟨‹_›, h⟩
  · cases h

theorem Inv.step {D : List OpD} (hg : globChk ops = true) (hX : ∀ g, X0 g → g < w0.heap.size) (hF0 : ∀ w w', F0 w → Sta (fun g => (g < w0.heap.size ∧ ¬ X0 g) ∨ X0 g) w w' → F0 w') (hS : ∀ w, Keeps X0 w0 w → S w)
    (hD : D.length = ops.size) (hA : ∀ j o d, D[j]? = some d → ops[j]? = some o → Asked P ops X0 w0 S a0 (G0 ops X0 F0) (D.take j) j o d)
    {listed : Array Bool} {a : Act} {w : World} {vs : Vs} (hI : Inv ops X0 w0 a0 F0 D listed a w vs) {i : Nat} (hi : i ∈ Region.ready .any ops listed) :
    wpOp P ops Q i (fun a' w' => ∃ vs', Inv ops X0 w0 a0 F0 D (listed.setIfInBounds i true) a' w' vs') a w := by
  simp only [globChk, Bool.and_eq_true] at hg
  obtain ⟨⟨⟨hsel, hlook⟩, hdist⟩, htopo⟩ := hg
  obtain ⟨hun, o, ho, hafter⟩ := mem_ready.1 hi
  have hilt : i < ops.size := (Array.getElem?_eq_some_iff.1 ho).1
  have hun' : listed.getD i false = false := by
    have : i < listed.size := by rw [hI.size]; exact hilt
    simp only [Array.getD_eq_getD_getElem?, Array.getElem?_eq_getElem this] at hun ⊢
    exact hun
  have hpre : ∀ p, Pre ops p i → listed.getD p false = true := by
    intro p hp
    cases hp with
    | edge ho' he hb => rw [ho] at ho'; injection ho' with ho'; subst ho'; exact hafter _ he hb
    | more ho' he hb hp => rw [ho] at ho'; injection ho' with ho'; subst ho'; exact hI.down _ _ (hafter _ he hb) hp
  obtain ⟨d, hd⟩ : ∃ d, D[i]? = some d := ⟨_, List.getElem?_eq_getElem (by rw [hD]; exact hilt)⟩
  have hask := hA i o d hd ho
  have hdst : dstOf ops i = o.dst := by rw [dstOf, ho]; rfl
  -- the frame at hand agrees with the one that was asked about
  have hagree : ∀ t, t ∈ o.looksAt ops → a.tmps[t]? = (bGo ops vs (D.take i) 0 a0).tmps[t]? := by
    intro t ht
    by_cases hex : ∃ j, dstOf ops j = some t
    · obtain ⟨j, hj⟩ := hex
      have notI : ∀ j', dstOf ops j' = some t → j' = j := fun j' h => dist_of hdist _ _ _ h hj
      have later : listed.getD j false = false → i ≤ j → a.tmps[t]? = (bGo ops vs (D.take i) 0 a0).tmps[t]? := fun hl hij => by
        rw [hI.other t (fun j' h1 h2 => by rw [notI j' h2, hl] at h1; cases h1), bGo_other ops vs t _ _ _ (fun j' _ h2 h3 => by
          have := notI j' h3
          rw [List.length_take] at h2
          omega)]
      rcases look_of hlook ho ht hj with rfl | ⟨hlt, hp⟩ | ⟨hlt, hp⟩
      · exact later hun' (Nat.le_refl _)
      · obtain ⟨dj, hdj⟩ : ∃ d, D[j]? = some d := ⟨_, List.getElem?_eq_getElem (by rw [hD]; omega)⟩
        by_cases hts : t < a0.tmps.size
        · rw [hI.slot j t dj (hpre _ hp) hj hts hdj]
          rw [bGo_at ops vs (fun i j t => dist_of hdist i j t) t j hj dj (D.take i) 0 a0 (Nat.zero_le _) (by rw [Nat.sub_zero, List.getElem?_take, if_pos hlt, hdj]) hts]
        · have hts' : a0.tmps.size ≤ t := Nat.le_of_not_lt hts
          rw [Array.getElem?_eq_none (by rw [hI.tsize]; exact hts'), Array.getElem?_eq_none (by rw [bGo_size]; exact hts')]
      · refine later ?_ (by omega)
        cases hl : listed.getD j false
        · rfl
        · have := hI.down _ _ hl hp
          rw [hun'] at this; cases this
    · rw [hI.other t (fun j h1 h2 => hex ⟨j, h2⟩), bGo_other ops vs t _ _ _ (fun j _ _ h3 => hex ⟨j, h3⟩)]
  have hsize : a.tmps.size = (bGo ops vs (D.take i) 0 a0).tmps.size := by rw [bGo_size, hI.tsize]
  have hexec : execOp a.eval o = execOp (bGo ops vs (D.take i) 0 a0).eval o := exec_agree (fun cs b => Region.noSelect_spec hsel i o cs b ho) hagree
  have hwant := wanted_agree hagree
  -- who is asked about is alive
  have halive : ∀ uses eats, chk ops (shs (D.take i) 0) i uses eats = true → d.uses = uses → ∀ p ∈ uses, (ops.size ≤ p ∨ listed.getD p false = true) ∧ (∀ j dj, D[j]? = some dj → p ∈ dj.eats → listed.getD j false = false) := by
    intro uses eats hc hu p hp
    obtain ⟨h1, h2⟩ := chk_use hc hp
    refine ⟨h1.imp id (hpre p), fun j dj hj hm => ?_⟩
    rcases Nat.lt_trichotomy j i with hlt | rfl | hlt
    · exact absurd hm (h2 (dj.sh (0 + j)) ((mem_shs _ _).2 ⟨j, dj, by rw [List.getElem?_take, if_pos hlt, hj], rfl⟩))
    · exact hun'
    · obtain ⟨oj, hoj⟩ : ∃ oj, ops[j]? = some oj := ⟨_, Array.getElem?_eq_getElem (by have := (List.getElem?_eq_some_iff.1 hj).1; omega)⟩
      have hcj : ∃ u, chk ops (shs (D.take j) 0) j u dj.eats = true := by
        have := hA j oj dj hj hoj
        cases dj with
        | cl v u => exact ⟨u, this.1⟩
        | opn F own u e => exact ⟨u, this.1⟩
      obtain ⟨u, hcj⟩ := hcj
      have h3 := (chk_eat hcj hm).2 (d.sh (0 + i)) ((mem_shs _ _).2 ⟨i, d, by rw [List.getElem?_take, if_pos hlt, hd], rfl⟩) (by show p ∈ d.uses; rw [hu]; exact hp)
      have h3' : Pre ops i j := by have e : (d.sh (0 + i)).idx = i := Nat.zero_add i; rwa [e] at h3
      cases hl : listed.getD j false
      · rfl
      · have := hI.down _ _ hl h3'
        rw [hun'] at this; cases this
  have hfull : ∀ (p : Nat) (vs : Vs) (w : World), FF ops F0 D p vs w → Fof (G0 ops X0 F0 :: ents (D.take i) 0) p vs w := fun p vs w h => by
    have := (Fof_G0 (X0 := X0) D p vs w).2 h
    have e : ents D 0 = ents (D.take i) 0 ++ ents (D.drop i) (0 + (D.take i).length) := by rw [← ents_append, List.take_append_drop]
    rw [e, ← List.cons_append] at this
    exact Fof_append _ _ _ _ _ this
  have hfullO : ∀ (p : Nat) (vs : Vs) (g : Nat), Oof (G0 ops X0 F0 :: ents (D.take i) 0) p vs g → OO ops X0 D p vs g := fun p vs g h => by
    rw [← Oof_G0 (F0 := F0)]
    have e : ents D 0 = ents (D.take i) 0 ++ ents (D.drop i) (0 + (D.take i).length) := by rw [← ents_append, List.take_append_drop]
    rw [e, ← List.cons_append]
    exact Oof_append _ _ _ _ _ h
  -- other facts do not look at what i leaves
  have hdepF : ∀ v p, p ≠ i → (ops.size ≤ p ∨ listed.getD p false = true) → ∀ w, FF ops F0 D p vs w → FF ops F0 D p (upd vs i v) w := by
    intro v p hpi hpl w h
    unfold FF at h ⊢
    split
    · rename_i e; rw [if_pos e] at h; exact h
    · rename_i e
      rw [if_neg e] at h
      intro dp hdp
      have hplt : p < ops.size := by have := (List.getElem?_eq_some_iff.1 hdp).1; omega
      have hl := hpl.resolve_left (by omega)
      have h1 := h dp hdp
      cases dp with
      | cl v u => trivial
      | opn F own u e =>
        have hq := (hA p _ _ hdp (Array.getElem?_eq_getElem hplt)).2.1 vs (upd vs i v) (fun j hj => (upd_ne vs v (by
          rintro rfl
          rcases hj with rfl | hj
          · exact hpi rfl
          · have := hI.down _ _ hl (pre_of hj); rw [hun'] at this; cases this)).symm)
        show F (upd vs i v) w
        rw [← hq.1]; exact h1
  have hdepO : ∀ v p, p ≠ i → (ops.size ≤ p ∨ listed.getD p false = true) → ∀ g, OO ops X0 D p (upd vs i v) g → OO ops X0 D p vs g := by
    intro v p hpi hpl g h
    unfold OO at h ⊢
    split
    · rename_i e; rw [if_pos e] at h; exact h
    · rename_i e
      rw [if_neg e] at h
      obtain ⟨dp, hdp, h1⟩ := h
      have hplt : p < ops.size := by have := (List.getElem?_eq_some_iff.1 hdp).1; omega
      have hl := hpl.resolve_left (by omega)
      refine ⟨dp, hdp, ?_⟩
      cases dp with
      | cl v u => exact h1
      | opn F own u e =>
        have hq := (hA p _ _ hdp (Array.getElem?_eq_getElem hplt)).2.1 vs (upd vs i v) (fun j hj => (upd_ne vs v (by
          rintro rfl
          rcases hj with rfl | hj
          · exact hpi rfl
          · have := hI.down _ _ hl (pre_of hj); rw [hun'] at this; cases this)).symm)
        show own vs g
        rw [hq.2]; exact h1
  -- what is behind the operation
  have hafterI : ∀ v w', d.val i (upd vs i v) = v → (d.F (upd vs i v) w') → (∀ p ∈ d.eats, p ∈ d.uses) → (∀ p ∈ d.uses, (ops.size ≤ p ∨ listed.getD p false = true) ∧ (∀ j dj, D[j]? = some dj → p ∈ dj.eats → listed.getD j false = false)) →
      Keeps (fun g => ∃ p ∈ d.eats, OO ops X0 D p vs g) w w' → (∀ g, d.own (upd vs i v) g → g < w'.heap.size ∧ (w.heap.size ≤ g ∨ ∃ p ∈ d.eats, OO ops X0 D p vs g)) →
      ∃ vs', Inv ops X0 w0 a0 F0 D (listed.setIfInBounds i true) (a.put o.dst v) w' vs' := by
    intro v w' hval hF heu hal hK hown
    have hnE : ∀ g, (g < w0.heap.size ∧ ¬ X0 g) → ¬ ∃ p ∈ d.eats, OO ops X0 D p vs g := fun g hold ⟨p, hp, hg⟩ => by
      have := hal p (heu p hp)
      exact ((hI.fact p this.1 this.2).2 g hg).2 hold
    have hsz0 : w0.heap.size ≤ w.heap.size := hI.keeps.size
    have live' : ∀ p, (∀ j dj, D[j]? = some dj → p ∈ dj.eats → (listed.setIfInBounds i true).getD j false = false) → (∀ j dj, D[j]? = some dj → p ∈ dj.eats → listed.getD j false = false) ∧ p ∉ d.eats := fun p h => by
      refine ⟨fun j dj hj hm => listed_keep (h j dj hj hm), fun hm => ?_⟩
      have := h i d hd hm
      have hlt : i < listed.size := by rw [hI.size]; exact hilt
      simp [hlt] at this
    refine ⟨upd vs i v, ⟨by simpa using hI.size, ?_, ?_, by rw [put_defers]; exact hI.defers, by rw [put_size]; exact hI.tsize, ?_, ?_, ?_, ?_⟩⟩
    · intro j p hj hp
      rcases listed_set hj with rfl | hj
      · exact getD_set_true (hpre p hp)
      · exact getD_set_true (hI.down _ _ hj hp)
    · refine ⟨hK.os.trans hI.keeps.os, hK.tape.trans hI.keeps.tape, hK.output.trans hI.keeps.output, Nat.le_trans hsz0 hK.size, fun g hgl hgx => ?_⟩
      rw [hK.block g (by omega) (hnE g ⟨hgl, hgx⟩), hI.keeps.block g hgl hgx]
    · intro j t dj hj hjt hts hdj
      by_cases hji : j = i
      · subst hji
        rw [hd] at hdj; injection hdj with hdj; subst hdj
        rw [← hdst, hjt, put_at _ _ _ (by rw [hI.tsize]; exact hts), hval]
      · rcases listed_set hj with rfl | hj
        · exact absurd rfl hji
        · rw [put_other _ _ _ _ (fun e => hji (dist_of hdist j i t hjt (by rw [hdst, e]))), hI.slot j t dj hj hjt hts hdj]
          cases dj with
          | cl v u => rfl
          | opn F own u e => show some (vs j) = some (upd vs i v j); rw [upd_ne vs v hji]
    · intro t ht
      have hti : o.dst ≠ some t := by
        rw [← hdst]
        exact ht i (by
          have hlt : i < listed.size := by rw [hI.size]; exact hilt
          simp [hlt])
      rw [put_other _ _ _ _ hti, hI.other t (fun j hj => ht j (getD_set_true hj))]
    · intro p hpl hplive
      obtain ⟨hlv, hne⟩ := live' p hplive
      by_cases hpi : p = i
      · subst hpi
        have hpn : ¬ p = ops.size := by omega
        constructor
        · unfold FF; rw [if_neg hpn]; intro dp hdp; rw [hd] at hdp; injection hdp with hdp; subst hdp; exact hF
        · intro g hg
          unfold OO at hg; rw [if_neg hpn] at hg
          obtain ⟨dp, hdp, hg⟩ := hg
          rw [hd] at hdp; injection hdp with hdp; subst hdp
          obtain ⟨h1, h2⟩ := hown g hg
          refine ⟨h1, ?_⟩
          rcases h2 with h2 | ⟨q, hq, h2⟩
          · rintro ⟨h3, _⟩; omega
          · exact fun hold => hnE g hold ⟨q, hq, h2⟩
      · have hpl' : ops.size ≤ p ∨ listed.getD p false = true := hpl.imp id fun h => (listed_set h).resolve_left hpi
        obtain ⟨hfp, hop⟩ := hI.fact p hpl' hlv
        have hsame : ∀ g, g < w.heap.size → ((g < w0.heap.size ∧ ¬ X0 g) ∨ OO ops X0 D p vs g) → w'.heap[g]? = w.heap[g]? := fun g hgl hgo => hK.block g hgl (by
          rcases hgo with hgo | hgo
          · exact hnE g hgo
          · rintro ⟨q, hq, hq2⟩
            have hqa := hal q (heu q hq)
            have hpq : p ≠ q := by rintro rfl; exact hne hq
            exact hI.disj p q hpl' hlv hqa.1 hqa.2 hpq g hgo hq2)
        constructor
        · have h1 := hdepF v p hpi hpl' w hfp
          unfold FF at h1 ⊢
          split
          · rename_i e
            rw [if_pos e] at h1
            exact hF0 _ _ h1 ⟨hK.size, fun g hgl hgo => hsame g hgl (by
              rcases hgo with hgo | hgo
              · exact .inl hgo
              · exact .inr (by unfold OO; rw [if_pos e]; exact hgo))⟩
          · rename_i e
            rw [if_neg e] at h1
            intro dp hdp
            have hplt : p < ops.size := by have := (List.getElem?_eq_some_iff.1 hdp).1; omega
            have h2 := h1 dp hdp
            cases dp with
            | cl v u => trivial
            | opn F own u e' =>
              refine (hA p _ _ hdp (Array.getElem?_eq_getElem hplt)).2.2.1 _ _ _ h2 ⟨hK.size, fun g hgl hgo => hsame g hgl ?_⟩
              rcases hgo with hgo | hgo
              · exact .inl hgo
              · exact .inr (hdepO v p hpi hpl' g (by unfold OO; rw [if_neg e]; exact ⟨_, hdp, hgo⟩))
        · intro g hg
          obtain ⟨h1, h2⟩ := hop g (hdepO v p hpi hpl' g hg)
          exact ⟨Nat.lt_of_lt_of_le h1 hK.size, h2⟩
    · -- two who are alive share no block
      have hone : ∀ q, (ops.size ≤ q ∨ listed.getD q false = true) → (∀ j dj, D[j]? = some dj → q ∈ dj.eats → listed.getD j false = false) → q ∉ d.eats → ∀ g, d.own (upd vs i v) g → ¬ OO ops X0 D q vs g := by
        intro q hql hqlv hqe g hg hgq
        rcases (hown g hg).2 with h2 | ⟨p, hp, h2⟩
        · have := ((hI.fact q hql hqlv).2 g hgq).1; omega
        · have hpa := hal p (heu p hp)
          have hqp : q ≠ p := by rintro rfl; exact hqe hp
          exact hI.disj q p hql hqlv hpa.1 hpa.2 hqp g hgq h2
      have hii : ∀ g, OO ops X0 D i (upd vs i v) g → d.own (upd vs i v) g := fun g hg => by
        unfold OO at hg; rw [if_neg (by omega)] at hg
        obtain ⟨dp, hdp, hg⟩ := hg
        rw [hd] at hdp; injection hdp with hdp; subst hdp; exact hg
      intro p q hpl hplive hql hqlive hpq g hp hq
      obtain ⟨hlp, hep⟩ := live' p hplive
      obtain ⟨hlq, heq⟩ := live' q hqlive
      by_cases hpi : p = i
      · subst hpi
        have hqi : q ≠ p := Ne.symm hpq
        have hql' : ops.size ≤ q ∨ listed.getD q false = true := hql.imp id fun h => (listed_set h).resolve_left hqi
        exact hone q hql' hlq heq g (hii g hp) (hdepO v q hqi hql' g hq)
      · have hpl' : ops.size ≤ p ∨ listed.getD p false = true := hpl.imp id fun h => (listed_set h).resolve_left hpi
        by_cases hqi : q = i
        · subst hqi
          exact hone p hpl' hlp hep g (hii g hq) (hdepO v p hpi hpl' g hp)
        · have hql' : ops.size ≤ q ∨ listed.getD q false = true := hql.imp id fun h => (listed_set h).resolve_left hqi
          exact hI.disj p q hpl' hlp hql' hlq hpq g (hdepO v p hpi hpl' g hp) (hdepO v q hqi hql' g hq)
  -- the operation itself
  have hSw := hS w hI.keeps
  cases d with
  | cl v uses =>
    obtain ⟨hc, hrun⟩ := hask
    have hal := halive uses [] hc rfl
    have hr := hrun vs w hI.keeps hSw (fun p hp => hfull p vs w (hI.fact p (hal p hp).1 (hal p hp).2).1) (fun a' w' => ∃ v', a' = (bGo ops vs (D.take i) 0 a0).put o.dst v' ∧ (v' = v ∧ Keeps (fun _ => False) w w')) (fun v w' h => ⟨v, rfl, h⟩)
    have fin : ∀ v' w', (v' = v ∧ Keeps (fun _ => False) w w') → ∃ vs', Inv ops X0 w0 a0 F0 D (listed.setIfInBounds i true) (a.put o.dst v') w' vs' := fun v' w' ⟨h1, h2⟩ => by
      subst h1
      exact hafterI v' w' rfl trivial (by simp [OpD.eats]) hal ⟨h2.os, h2.tape, h2.output, h2.size, fun g hgl _ => h2.block g hgl id⟩ (fun g hg => hg.elim)
    unfold wpOp
    simp only [ho]
    rw [hwant]
    split
    · rename_i hw
      rw [if_pos hw] at hr
      refine .inl (wp_false (Oper.wp_mono (fun a' w' h => ?_) (wp_move hsize hexec hr)))
      obtain ⟨v, rfl, h⟩ := h
      exact fin v w' h
    · rename_i hw
      rw [if_neg hw] at hr
      obtain ⟨v, hv, h⟩ := hr
      rw [put_same hsize hv]
      exact fin v w h
  | opn F own uses eats =>
    obtain ⟨hc, hdep, hsta, hrun⟩ := hask
    have hal := halive uses eats hc rfl
    have hr := hrun vs w hI.keeps hSw (fun p hp => hfull p vs w (hI.fact p (hal p hp).1 (hal p hp).2).1) (fun a' w' => ∃ v, a' = (bGo ops vs (D.take i) 0 a0).put o.dst v ∧ (F (upd vs i v) w' ∧ Keeps (fun g => ∃ p ∈ eats, Oof (G0 ops X0 F0 :: ents (D.take i) 0) p vs g) w w' ∧ ∀ g, own (upd vs i v) g → g < w'.heap.size ∧ (w.heap.size ≤ g ∨ ∃ p ∈ eats, Oof (G0 ops X0 F0 :: ents (D.take i) 0) p vs g))) (fun v w' h => ⟨v, rfl, h⟩)
    have fin : ∀ v w', (F (upd vs i v) w' ∧ Keeps (fun g => ∃ p ∈ eats, Oof (G0 ops X0 F0 :: ents (D.take i) 0) p vs g) w w' ∧ ∀ g, own (upd vs i v) g → g < w'.heap.size ∧ (w.heap.size ≤ g ∨ ∃ p ∈ eats, Oof (G0 ops X0 F0 :: ents (D.take i) 0) p vs g)) →
        ∃ vs', Inv ops X0 w0 a0 F0 D (listed.setIfInBounds i true) (a.put o.dst v) w' vs' := fun v w' ⟨h1, h2, h3⟩ =>
      hafterI v w' (upd_same vs i v) h1 (fun p hp => (chk_eat hc hp).1) hal
        ⟨h2.os, h2.tape, h2.output, h2.size, fun g hgl hgn => h2.block g hgl (fun ⟨p, hp, hg⟩ => hgn ⟨p, hp, hfullO p vs g hg⟩)⟩
        (fun g hg => ⟨(h3 g hg).1, (h3 g hg).2.imp id fun ⟨p, hp, hg⟩ => ⟨p, hp, hfullO p vs g hg⟩⟩)
    unfold wpOp
    simp only [ho]
    rw [hwant]
    split
    · rename_i hw
      rw [if_pos hw] at hr
      refine .inl (wp_false (Oper.wp_mono (fun a' w' h => ?_) (wp_move hsize hexec hr)))
      obtain ⟨v, rfl, h⟩ := h
      exact fin v w' h
    · rename_i hw
      rw [if_neg hw] at hr
      obtain ⟨v, hv, h⟩ := hr
      rw [put_same hsize hv]
      exact fin v w h

theorem wpAny_inv {I : Array Bool → Act → World → Prop} (hd : ∀ listed a w, I listed a w → Region.ready .any ops listed = [] → Q .normal a w)
    (hs : ∀ listed a w i, I listed a w → i ∈ Region.ready .any ops listed → wpOp P ops Q i (fun a' w' => I (listed.setIfInBounds i true) a' w') a w)
    (hz : ∀ listed a w, I listed a w → listed.size = ops.size) :
    ∀ (fuel : Nat) (listed : Array Bool) (a : Act) (w : World), (listed.toList.countP (· == false)) ≤ fuel → I listed a w → wpAny P .any ops Q fuel listed a w
  | 0, listed, a, w, hf, hI => by
    have hr : Region.ready .any ops listed = [] := by
      apply List.eq_nil_iff_forall_not_mem.2
      intro i hi
      have h1 := (mem_ready.1 hi).1
      have hlt : i < listed.size := by
        rcases Nat.lt_or_ge i listed.size with h | h
        · exact h
        · simp [Array.getElem?_eq_none h] at h1
      have h2 := (List.countP_eq_zero.1 (Nat.le_zero.1 hf)) listed[i] (by simp)
      simp [hlt] at h1
      simp [h1] at h2
    exact ⟨hr, hd _ _ _ hI hr⟩
  | fuel + 1, listed, a, w, hf, hI => by
    refine ⟨fun hr => hd _ _ _ hI hr, fun i hi => wpOp_mono (fun a' w' h => wpAny_inv hd hs hz fuel _ a' w' ?_ h) (hs listed a w i hI hi)⟩
    have h1 := (mem_ready.1 hi).1
    have hlt : i < listed.size := by
      rcases Nat.lt_or_ge i listed.size with h | h
      · exact h
      · simp [Array.getElem?_eq_none h] at h1
    simp [hlt] at h1
    have h2 : (listed.setIfInBounds i true).toList = listed.toList.set i true := by simp [Array.toList_setIfInBounds]
    rw [h2, List.countP_set (by simpa using hlt)]
    simp [h1]
    have h3 : 0 < listed.toList.countP (fun x => x == false) := List.countP_pos_iff.2 ⟨listed[i], by simp, by simp [h1]⟩
    simp at h3 hf ⊢
    omega

/-- **A region that draws its order, each operation looked at once.** -/
theorem wp_region_inv {id : Nat} {w : World} (S : World → Prop) (X0 : Nat → Prop) (F0 : World → Prop) (hm : P.follows .mixedOrders = true) (hg : globChk ops = true) (hX : ∀ g, X0 g → g < w.heap.size)
    (hF : F0 w.drew) (hF0 : ∀ w1 w2, F0 w1 → Sta (fun g => (g < w.heap.size ∧ ¬ X0 g) ∨ X0 g) w1 w2 → F0 w2) (hS : ∀ w1, Keeps X0 w.drew w1 → S w1)
    (h : ROK P ops Q X0 w.drew S ops.toList 0 [] [G0 ops X0 F0] (fun _ => a0)) : (Code.region id ops true).wp P Q a0 w := by
  obtain ⟨D, hD, hA, hfin⟩ := h.data [] rfl (Nat.zero_le _) rfl rfl (fun _ => rfl) rfl
  rw [List.nil_append] at hD
  simp only [List.nil_append, Nat.zero_add] at hA hfin
  refine wp_region_any hm ?_
  refine wpAny_inv (I := fun listed a w1 => ∃ vs, Inv ops X0 w.drew a0 F0 D listed a w1 vs) ?_ ?_ ?_ _ _ _ _ ?_ ?_
  · rintro listed a w1 ⟨vs, hI⟩ hr
    have hg' := hg
    simp only [globChk, Bool.and_eq_true] at hg'
    obtain ⟨⟨⟨hsel, hlook⟩, hdist⟩, htopo⟩ := hg'
    have hall := all_listed htopo hI.size hr
    have ha : a = bGo ops vs D 0 a0 := by
      have h1 : a.tmps = (bGo ops vs D 0 a0).tmps := by
        apply Array.ext_getElem?
        intro t
        by_cases hex : ∃ j, dstOf ops j = some t
        · obtain ⟨j, hj⟩ := hex
          obtain ⟨dj, hdj⟩ : ∃ d, D[j]? = some d := ⟨_, List.getElem?_eq_getElem (by rw [hD]; exact dstOf_lt hj)⟩
          by_cases hts : t < a0.tmps.size
          · rw [hI.slot j t dj (hall j (dstOf_lt hj)) hj hts hdj, bGo_at ops vs (fun i j t => dist_of hdist i j t) t j hj dj D 0 a0 (Nat.zero_le _) (by rw [Nat.sub_zero, hdj]) hts]
          · have hts' : a0.tmps.size ≤ t := Nat.le_of_not_lt hts
            rw [Array.getElem?_eq_none (by rw [hI.tsize]; exact hts'), Array.getElem?_eq_none (by rw [bGo_size]; exact hts')]
        · rw [hI.other t (fun j _ h2 => hex ⟨j, h2⟩), bGo_other ops vs t _ _ _ (fun j _ _ h3 => hex ⟨j, h3⟩)]
      have h2 : a.defers = (bGo ops vs D 0 a0).defers := by rw [bGo_defers, hI.defers]
      cases a
      generalize bGo ops vs D 0 a0 = b at *
      cases b
      simp only at h1 h2
      rw [h1, h2]
    rw [ha]
    refine hfin vs w1 hI.keeps (hS _ hI.keeps) (fun p hp => ?_)
    rw [Fof_G0]
    by_cases hpn : p = ops.size ∨ p < ops.size
    · refine (hI.fact p ?_ ?_).1
      · exact hpn.imp (fun h => by omega) (hall p)
      · intro j d hj hm
        have h1 := List.all_eq_true.1 hp (d.sh (0 + j)) ((mem_shs _ _).2 ⟨j, d, hj, rfl⟩)
        have h2 : (!d.eats.contains p) = true := h1
        rw [List.contains_eq_mem] at h2
        simp [hm] at h2
    · unfold FF
      rw [if_neg (fun e => hpn (.inl e))]
      intro d hd
      have := (List.getElem?_eq_some_iff.1 hd).1
      exact absurd (.inr (by omega)) hpn
  · rintro listed a w1 i ⟨vs, hI⟩ hi
    exact Inv.step (w0 := w.drew) hg hX hF0 hS hD (fun j o d hd ho => hA j o d hd ho) hI hi
  · rintro listed a w1 ⟨vs, hI⟩
    exact hI.size
  · exact Nat.le_trans List.countP_le_length (by simp)
  · have hz : ∀ i, (Array.replicate ops.size false).getD i false = false := fun i => by
      simp only [Array.getD_eq_getD_getElem?, Array.getElem?_replicate]
      split <;> rfl
    have hno : ∀ i, ¬ (Array.replicate ops.size false).getD i false = true := fun i h => by rw [hz] at h; cases h
    refine ⟨fun _ => undef, ⟨by simp, fun i p h => absurd h (hno i), Keeps.refl _ _, rfl, rfl, fun i t d h => absurd h (hno i), fun t _ => rfl, ?_, ?_⟩⟩
    · intro p hp _
      have hp' : ops.size ≤ p := hp.resolve_right (hno p)
      unfold FF OO
      by_cases e : p = ops.size
      · rw [if_pos e]
        refine ⟨hF, fun g hg' => ?_⟩
        rw [if_pos e] at hg'
        exact ⟨hX g hg', fun h => h.2 hg'⟩
      · rw [if_neg e]
        refine ⟨fun d hd => ?_, fun g hg' => ?_⟩
        · have := (List.getElem?_eq_some_iff.1 hd).1; omega
        · rw [if_neg e] at hg'
          obtain ⟨d, hd, _⟩ := hg'
          have := (List.getElem?_eq_some_iff.1 hd).1; omega
    · intro p q hp _ hq _ hpq g h1 h2
      have hp' : ops.size ≤ p := hp.resolve_right (hno p)
      have hq' : ops.size ≤ q := hq.resolve_right (hno q)
      unfold OO at h1 h2
      by_cases e : p = ops.size
      · rw [if_neg (fun e' => hpq (by rw [e, e']))] at h2
        obtain ⟨d, hd, _⟩ := h2
        have := (List.getElem?_eq_some_iff.1 hd).1; omega
      · rw [if_neg e] at h1
        obtain ⟨d, hd, _⟩ := h1
        have := (List.getElem?_eq_some_iff.1 hd).1; omega
end
end

/-! ### The moves of a walk: the checks are collected, and made once, at the end -/
structure Out where
  idx : Nat
  uses : List Nat
  eats : List Nat
  gs : Option (Nat × Tmp)
  deps : List Nat := []
def Out.sh (x : Out) : Shape := ⟨x.idx, x.uses, x.eats⟩
def gsChk (ops : Array Oper) : Option (Nat × Tmp) → Bool
  | none => true
  | some (g, t) => dstOf ops g == some t
def chkF (sh : List Shape) (uses : List Nat) : Bool := uses.all fun p => sh.all fun s => !s.eats.contains p
def chkAll (ops : Array Oper) : List Shape → List Out → Bool
  | _, [] => true
  | sh, x :: r => (bif Nat.beq x.idx ops.size then chkF sh x.uses else chk ops sh x.idx x.uses x.eats) && (gsChk ops x.gs && x.deps.all (maskOf ops x.idx)) && chkAll ops (sh ++ [x.sh]) r

/-- the guard of an operation: none, or a place that holds a truth value -/
def Want (o : Oper) (gs : Option (Nat × Tmp)) (a : Act) (x : Bool) : Prop :=
  match o.guard, gs with
  | none, none => x = true
  | some (g, want), some (g', t) => g = g' ∧ ∃ y, a.tmps[t]? = some (.bool y) ∧ x = (y == want)
  | _, _ => False
/-- a guard that was itself not asked: its place holds nothing that is true or false -/
def Unasked (o : Oper) (gs : Option (Nat × Tmp)) (a : Act) : Prop :=
  match o.guard, gs with
  | some (g, _), some (g', t) => g = g' ∧ a.tmps[t]? = some undef
  | _, _ => False
theorem want_of {ops : Array Oper} {o : Oper} {gs : Option (Nat × Tmp)} {a : Act} {x : Bool} (h : Want o gs a x) (hc : gsChk ops gs = true) : Region.wanted o (yielded ops a.tmps) = x := by
  unfold Want at h
  unfold Region.wanted
  cases hg : o.guard with
  | none =>
    rw [hg] at h
    cases gs with
    | none => exact h.symm
    | some p => exact h.elim
  | some p =>
    obtain ⟨g, want⟩ := p
    rw [hg] at h
    cases gs with
    | none => exact h.elim
    | some q =>
      obtain ⟨g', t⟩ := q
      obtain ⟨rfl, y, hy, rfl⟩ := h
      have hd : dstOf ops g = some t := by simpa [gsChk] using hc
      unfold dstOf at hd
      have hyd : yielded ops a.tmps g = some y := by
        unfold yielded
        rw [hd]
        simp only [Option.bind_some, hy]
      show (yielded ops a.tmps g == some want) = _
      rw [hyd]
      cases y <;> cases want <;> rfl
theorem unasked_of {ops : Array Oper} {o : Oper} {gs : Option (Nat × Tmp)} {a : Act} (h : Unasked o gs a) (hc : gsChk ops gs = true) : Region.wanted o (yielded ops a.tmps) = false := by
  unfold Unasked at h
  unfold Region.wanted
  cases hg : o.guard with
  | none =>
    rw [hg] at h
    exact h.elim
  | some p =>
    obtain ⟨g, want⟩ := p
    rw [hg] at h
    cases gs with
    | none => exact h.elim
    | some q =>
      obtain ⟨g', t⟩ := q
      obtain ⟨rfl, hy⟩ := h
      have hd : dstOf ops g = some t := by simpa [gsChk] using hc
      unfold dstOf at hd
      have hyd : yielded ops a.tmps g = none := by
        unfold yielded
        rw [hd]
        simp only [Option.bind_some, hy]
        rfl
      show (yielded ops a.tmps g == some want) = _
      rw [hyd]
      cases want <;> rfl

section
variable (P : Program) (QN : Act → World → Prop) (X0 : Nat → Prop) (w0 : World) (S : World → Prop)
inductive RK : List Oper → Nat → List Ent → (Vs → Act) → List Out → Prop
  | done {k : Nat} {Γ : List Ent} {b : Vs → Act} (live : List Nat)
      (h : ∀ vs w, Keeps X0 w0 w → S w → (∀ p ∈ live, Fof Γ p vs w) → QN (b vs) w) : RK [] k Γ b [⟨k, live, [], none, []⟩]
  | val {o : Oper} {rest : List Oper} {k : Nat} {Γ : List Ent} {b : Vs → Act} {out : List Out} (v : Value) (uses : List Nat) (gs : Option (Nat × Tmp))
      (h : ∀ vs w, Keeps X0 w0 w → S w → (∀ p ∈ uses, Fof Γ p vs w) → ∃ x, (Want o gs (b vs) x ∨ (x = false ∧ Unasked o gs (b vs))) ∧ ∀ K : Act → World → Prop, Shut (∀ w', Below w.heap.size w w' → K ((b vs).put o.dst v) w') →
        if x = true then o.wp P (b vs) w K (fun _ _ _ => False) else K ((b vs).put o.dst undef) w)
      (hr : RK rest (k + 1) Γ (fun vs => (b vs).put o.dst v) out) : RK (o :: rest) k Γ b (⟨k, uses, [], gs, []⟩ :: out)
  | op {o : Oper} {rest : List Oper} {k : Nat} {Γ : List Ent} {b : Vs → Act} {out : List Out} (F : Vs → World → Prop) (own : Vs → Nat → Prop) (uses eats deps : List Nat) (gs : Option (Nat × Tmp))
      (hd : ∀ vs vs' : Vs, (∀ i ∈ k :: deps, vs i = vs' i) → F vs = F vs' ∧ own vs = own vs')
      (hs : ∀ vs w w', F vs w → Sta (fun g => (g < w0.heap.size ∧ ¬ X0 g) ∨ own vs g) w w' → F vs w')
      (h : ∀ vs w, Keeps X0 w0 w → S w → (∀ p ∈ uses, Fof Γ p vs w) → ∃ x, Want o gs (b vs) x ∧ ∀ K : Act → World → Prop, Shut (∀ v w', (F (upd vs k v) w' ∧ Keeps (fun g => ∃ p ∈ eats, Oof Γ p vs g) w w' ∧ ∀ g, own (upd vs k v) g → g < w'.heap.size ∧ (w.heap.size ≤ g ∨ ∃ p ∈ eats, Oof Γ p vs g)) → K ((b vs).put o.dst v) w') →
        if x = true then o.wp P (b vs) w K (fun _ _ _ => False) else K ((b vs).put o.dst undef) w)
      (hr : RK rest (k + 1) (Γ ++ [⟨k, F, own⟩]) (fun vs => (b vs).put o.dst (vs k)) out) : RK (o :: rest) k Γ b (⟨k, uses, eats, gs, deps⟩ :: out)
end

theorem RK.rok {P : Program} {ops : Array Oper} {Q : Exit → Act → World → Prop} {QN : Act → World → Prop} {X0 : Nat → Prop} {w0 : World} {S : World → Prop} (hQ : ∀ a w, QN a w → Q .normal a w)
    {rest : List Oper} {k : Nat} {Γ : List Ent} {b : Vs → Act} {out : List Out} (h : RK P QN X0 w0 S rest k Γ b out) :
    ∀ (Δ : List Ent), (∀ p vs w, Fof (Δ ++ Γ) p vs w → Fof Γ p vs w) → (∀ p vs g, Oof Γ p vs g → Oof (Δ ++ Γ) p vs g) → (∀ e ∈ Δ, ops.size ≤ e.idx) → k + rest.length = ops.size → ∀ sh : List Shape, chkAll ops sh out = true → ROK P ops Q X0 w0 S rest k sh (Δ ++ Γ) b := by
  induction h with
  | @done k Γ b live h =>
    intro Δ hF hO _ hkn sh hc
    have hk : k = ops.size := hkn
    subst hk
    simp only [chkAll, Bool.and_eq_true, Nat.beq_refl, cond_true] at hc
    refine .done fun vs w hK hS hf => hQ _ _ (h vs w hK hS fun p hp => hF _ _ _ (hf p ?_))
    exact List.all_eq_true.1 hc.1.1 p hp
  | @val o rest k Γ b out v uses gs h hr ih =>
    intro Δ hF hO hΔ hkn sh hc
    have hkb : Nat.beq k ops.size = false := by
      cases hb : Nat.beq k ops.size
      · rfl
      · have := Nat.eq_of_beq_eq_true hb; rw [List.length_cons] at hkn; omega
    simp only [chkAll, Bool.and_eq_true, hkb, cond_false] at hc
    refine .val v uses hc.1.1 (fun vs w hK hS hf => ?_) (ih Δ hF hO hΔ (by rw [List.length_cons] at hkn; omega) _ hc.2)
    obtain ⟨x, hx, hw⟩ := h vs w hK hS (fun p hp => hF _ _ _ (hf p hp))
    intro K hKK
    have hx' : Region.wanted o (yielded ops (b vs).tmps) = x := by
      rcases hx with hx | ⟨rfl, hx⟩
      · exact want_of hx hc.1.2.1
      · exact unasked_of hx hc.1.2.1
    rw [hx']
    exact hw K (fun w' hu => hKK v w' ⟨rfl, Keeps.of_up hu⟩)
  | @op o rest k Γ b out F own uses eats deps gs hd hs h hr ih =>
    intro Δ hF hO hΔ hkn sh hc
    have hkb : Nat.beq k ops.size = false := by
      cases hb : Nat.beq k ops.size
      · rfl
      · have := Nat.eq_of_beq_eq_true hb; rw [List.length_cons] at hkn; omega
    simp only [chkAll, Bool.and_eq_true, hkb, cond_false] at hc
    have hlt : k < ops.size := by rw [List.length_cons] at hkn; omega
    have hne : ∀ e ∈ Δ, Nat.beq e.idx k = false := fun e he => by
      cases hb : Nat.beq e.idx k
      · rfl
      · have := Nat.eq_of_beq_eq_true hb; have := hΔ e he; omega
    have e1 : (Δ ++ Γ) ++ [(⟨k, F, own⟩ : Ent)] = Δ ++ (Γ ++ [⟨k, F, own⟩]) := List.append_assoc _ _ _
    have fofΔ : ∀ (Δ : List Ent), (∀ e ∈ Δ, Nat.beq e.idx k = false) → ∀ (Z : List Ent) (vs : Vs) (w : World), Fof (Δ ++ Z) k vs w ↔ Fof Z k vs w := by
      intro Δ hne Z vs w
      induction Δ with
      | nil => rfl
      | cons e r ih2 =>
        rw [List.cons_append, Fof, hne e List.mem_cons_self, cond_false]
        exact ih2 (fun e he => hne e (List.mem_cons_of_mem _ he))
    have hr' := ih Δ ?_ ?_ hΔ (by rw [List.length_cons] at hkn; omega) _ hc.2
    · refine .op F own uses eats hc.1.1 (fun vs vs' he => hd vs vs' fun i hi => he i ?_) (fun vs w w' hg hst => hs _ _ _ hg hst) ?_ (by rw [e1]; exact hr')
      · rcases List.mem_cons.1 hi with hi | hi
        · exact .inl hi
        · exact .inr (List.all_eq_true.1 hc.1.2.2 i hi)
      intro vs w hK hS hf K hKK
      obtain ⟨x, hx, hw⟩ := h vs w hK hS (fun p hp => hF _ _ _ (hf p hp))
      rw [want_of hx hc.1.2.1]
      exact hw K (fun v w' ⟨h1, h2, h3⟩ => hKK v w' ⟨h1, ⟨h2.os, h2.tape, h2.output, h2.size, fun g hgl hgn => h2.block g hgl (fun ⟨p, hp, hg⟩ => hgn ⟨p, hp, hO _ _ _ hg⟩)⟩, fun g hg =>
        ⟨(h3 g hg).1, (h3 g hg).2.imp id fun ⟨p, hp, hg⟩ => ⟨p, hp, hO _ _ _ hg⟩⟩⟩)
    · -- facts of the longer row
      have split : ∀ (Γ : List Ent) (p : Nat) (vs : Vs) (w : World) (e : Ent), Fof (Γ ++ [e]) p vs w ↔ (Fof Γ p vs w ∧ ((∀ x ∈ Γ, Nat.beq x.idx p = false) → Nat.beq e.idx p = true → e.F vs w)) := by
        intro Γ p vs w e
        induction Γ with
        | nil => simp only [List.nil_append, Fof]; cases Nat.beq e.idx p <;> simp
        | cons x r ih2 =>
          simp only [List.cons_append, Fof]
          cases hb : Nat.beq x.idx p
          · simp only [cond_false]; rw [ih2]; simp [hb]
          · simp only [cond_true]
            constructor
            · intro hx; exact ⟨hx, fun hall => by have := hall x List.mem_cons_self; rw [hb] at this; cases this⟩
            · exact fun hx => hx.1
      intro p vs w hf
      rw [← e1] at hf
      have h1 := (split (Δ ++ Γ) p vs w _).1 hf
      refine (split Γ p vs w _).2 ⟨hF p vs w h1.1, fun hall hb => ?_⟩
      refine h1.2 (fun x hx => ?_) hb
      rcases List.mem_append.1 hx with hx | hx
      · have hb' : k = p := Nat.eq_of_beq_eq_true hb
        rw [← hb']; exact hne x hx
      · exact hall x hx
    · have split : ∀ (Γ : List Ent) (p : Nat) (vs : Vs) (g : Nat) (e : Ent), Oof (Γ ++ [e]) p vs g ↔ (Oof Γ p vs g ∨ ((∀ x ∈ Γ, Nat.beq x.idx p = false) ∧ Nat.beq e.idx p = true ∧ e.own vs g)) := by
        intro Γ p vs g e
        induction Γ with
        | nil => simp only [List.nil_append, Oof]; cases Nat.beq e.idx p <;> simp
        | cons x r ih2 =>
          simp only [List.cons_append, Oof]
          cases hb : Nat.beq x.idx p
          · simp only [cond_false]; rw [ih2]; simp [hb]
          · simp only [cond_true]
            constructor
            · intro hx; exact .inl hx
            · rintro (hx | ⟨hall, _⟩)
              · exact hx
              · have := hall x List.mem_cons_self; rw [hb] at this; cases this
      intro p vs g hf
      rw [← e1]
      rcases (split Γ p vs g _).1 hf with h1 | ⟨h1, h2, h3⟩
      · exact (split (Δ ++ Γ) p vs g _).2 (.inl (hO p vs g h1))
      · refine (split (Δ ++ Γ) p vs g _).2 (.inr ⟨fun x hx => ?_, h2, h3⟩)
        rcases List.mem_append.1 hx with hx | hx
        · have hb' : k = p := Nat.eq_of_beq_eq_true h2
          rw [← hb']; exact hne x hx
        · exact h1 x hx

/-! ### What a walk types -/
def Fall (Γ : List Ent) : List Nat → Vs → World → Prop
  | [], _, _ => True
  | p :: r, vs, w => Fof Γ p vs w ∧ Fall Γ r vs w
theorem Fall.mk {Γ : List Ent} {vs : Vs} {w : World} : ∀ {l : List Nat}, (∀ p ∈ l, Fof Γ p vs w) → Fall Γ l vs w
  | [], _ => trivial
  | p :: r, h => ⟨h p List.mem_cons_self, Fall.mk fun q hq => h q (List.mem_cons_of_mem _ hq)⟩

/-- the block that a slice or a pointer leads to -/
def ob (v : Value) (g : Nat) : Prop := match v with
  | .slice (some a) _ _ => a.block = g
  | .pointer (some a) => a.block = g
  | _ => False

section
variable {P : Program} {QN : Act → World → Prop} {X0 : Nat → Prop} {w0 : World} {S : World → Prop} {o : Oper} {rest : List Oper} {k : Nat} {Γ : List Ent} {b : Vs → Act} {out : List Out}
/-- all have come up -/
theorem RK.fin (live : List Nat) (h : ∀ vs w, Keeps X0 w0 w → S w → Fall Γ live vs w → QN (b vs) w) : RK P QN X0 w0 S [] k Γ b [⟨k, live, [], none, []⟩] :=
  .done live fun vs w hK hS hf => h vs w hK hS (Fall.mk hf)
/-- an operation that yields v and leaves memory as it is -/
theorem RK.ok {v : Value} (h : ∀ vs w, S w → (execOp (b vs).eval o).run P w = .ok (.value v) w) (hg : o.guard = none) (hr : RK P QN X0 w0 S rest (k + 1) Γ (fun vs => (b vs).put o.dst v) out) : RK P QN X0 w0 S (o :: rest) k Γ b (⟨k, [], [], none, []⟩ :: out) :=
  .val v [] none (fun vs w _ hS _ => ⟨true, .inl (by simp only [Want, hg]), fun K hK => by
    rw [if_pos rfl, Oper.wp, h vs w hS]
    exact hK.out w (Below.refl _ _)⟩) hr
/-- the same, from what is known of those in 'uses' -/
theorem RK.okU (uses : List Nat) {v : Value} (h : ∀ vs w, S w → Fall Γ uses vs w → (execOp (b vs).eval o).run P w = .ok (.value v) w) (hg : o.guard = none) (hr : RK P QN X0 w0 S rest (k + 1) Γ (fun vs => (b vs).put o.dst v) out) : RK P QN X0 w0 S (o :: rest) k Γ b (⟨k, uses, [], none, []⟩ :: out) :=
  .val v uses none (fun vs w _ hS hf => ⟨true, .inl (by simp only [Want, hg]), fun K hK => by
    rw [if_pos rfl, Oper.wp, h vs w hS (Fall.mk hf)]
    exact hK.out w (Below.refl _ _)⟩) hr
/-- guarded, and asked -/
theorem RK.gok {g t : Nat} {x : Bool} {v : Value} (h : ∀ vs w, S w → (execOp (b vs).eval o).run P w = .ok (.value v) w) (hg : o.guard = some (g, x)) (ht : ∀ vs, (b vs).tmps[t]? = some (.bool x)) (hr : RK P QN X0 w0 S rest (k + 1) Γ (fun vs => (b vs).put o.dst v) out) : RK P QN X0 w0 S (o :: rest) k Γ b (⟨k, [], [], some (g, t), []⟩ :: out) :=
  .val v [] (some (g, t)) (fun vs w _ hS _ => ⟨true, .inl (by simp only [Want, hg]; exact ⟨trivial, x, ht vs, by cases x <;> rfl⟩), fun K hK => by
    rw [if_pos rfl, Oper.wp, h vs w hS]
    exact hK.out w (Below.refl _ _)⟩) hr
/-- guarded, and not asked -/
theorem RK.gno {g t : Nat} {x y : Bool} (hg : o.guard = some (g, x)) (ht : ∀ vs, (b vs).tmps[t]? = some (.bool y)) (hxy : (y == x) = false) (hr : RK P QN X0 w0 S rest (k + 1) Γ (fun vs => (b vs).put o.dst undef) out) : RK P QN X0 w0 S (o :: rest) k Γ b (⟨k, [], [], some (g, t), []⟩ :: out) :=
  .val undef [] (some (g, t)) (fun vs w _ hS _ => ⟨false, .inl (by simp only [Want, hg]; exact ⟨trivial, y, ht vs, hxy.symm⟩), fun K hK => by
    rw [if_neg (by simp)]
    exact hK.out w (Below.refl _ _)⟩) hr
/-- guarded by one that was not asked itself -/
theorem RK.gun {g t : Nat} {x : Bool} (hg : o.guard = some (g, x)) (ht : ∀ vs, (b vs).tmps[t]? = some undef) (hr : RK P QN X0 w0 S rest (k + 1) Γ (fun vs => (b vs).put o.dst undef) out) : RK P QN X0 w0 S (o :: rest) k Γ b (⟨k, [], [], some (g, t), []⟩ :: out) :=
  .val undef [] (some (g, t)) (fun vs w _ hS _ => ⟨false, .inr ⟨rfl, by simp only [Unasked, hg]; exact ⟨trivial, ht vs⟩⟩, fun K hK => by
    rw [if_neg (by simp)]
    exact hK.out w (Below.refl _ _)⟩) hr
/-- a call (or whatever makes memory and changes none) that yields v -/
theorem RK.call (v : Value) (uses : List Nat) (hg : o.guard = none)
    (h : ∀ vs w, Keeps X0 w0 w → S w → Fall Γ uses vs w → ∀ K : Act → World → Prop, Shut (∀ w', Below w.heap.size w w' → K ((b vs).put o.dst v) w') → o.wp P (b vs) w K (fun _ _ _ => False))
    (hr : RK P QN X0 w0 S rest (k + 1) Γ (fun vs => (b vs).put o.dst v) out) : RK P QN X0 w0 S (o :: rest) k Γ b (⟨k, uses, [], none, []⟩ :: out) :=
  .val v uses none (fun vs w hK hS hf => ⟨true, .inl (by simp only [Want, hg]), fun K hKK => by
    rw [if_pos rfl]
    exact h vs w hK hS (Fall.mk hf) K hKK⟩) hr
/-- the same, guarded and asked -/
theorem RK.gcall {g t : Nat} {x : Bool} (v : Value) (uses : List Nat) (hg : o.guard = some (g, x)) (ht : ∀ vs, (b vs).tmps[t]? = some (.bool x))
    (h : ∀ vs w, Keeps X0 w0 w → S w → Fall Γ uses vs w → ∀ K : Act → World → Prop, Shut (∀ w', Below w.heap.size w w' → K ((b vs).put o.dst v) w') → o.wp P (b vs) w K (fun _ _ _ => False))
    (hr : RK P QN X0 w0 S rest (k + 1) Γ (fun vs => (b vs).put o.dst v) out) : RK P QN X0 w0 S (o :: rest) k Γ b (⟨k, uses, [], some (g, t), []⟩ :: out) :=
  .val v uses (some (g, t)) (fun vs w hK hS hf => ⟨true, .inl (by simp only [Want, hg]; exact ⟨trivial, x, ht vs, by cases x <;> rfl⟩), fun K hKK => by
    rw [if_pos rfl]
    exact h vs w hK hS (Fall.mk hf) K hKK⟩) hr
/-- an operation whose value meets G behind it; it may own blocks -/
theorem RK.opn (G : Value → World → Prop) (own : Value → Nat → Prop) (uses eats : List Nat)
    (hs : ∀ v w w', G v w → Sta (fun g => (g < w0.heap.size ∧ ¬ X0 g) ∨ own v g) w w' → G v w') (hg : o.guard = none)
    (h : ∀ vs w, Keeps X0 w0 w → S w → Fall Γ uses vs w → ∀ K : Act → World → Prop, Shut (∀ v w', G v w' → Keeps (fun g => ∃ p ∈ eats, Oof Γ p vs g) w w' → (∀ g, own v g → g < w'.heap.size ∧ (w.heap.size ≤ g ∨ ∃ p ∈ eats, Oof Γ p vs g)) → K ((b vs).put o.dst v) w') → o.wp P (b vs) w K (fun _ _ _ => False))
    (hr : RK P QN X0 w0 S rest (k + 1) (Γ ++ [⟨k, fun vs => G (vs k), fun vs => own (vs k)⟩]) (fun vs => (b vs).put o.dst (vs k)) out) : RK P QN X0 w0 S (o :: rest) k Γ b (⟨k, uses, eats, none, []⟩ :: out) :=
  .op (fun vs => G (vs k)) (fun vs => own (vs k)) uses eats [] none (fun vs vs' he => by rw [he k List.mem_cons_self]; exact ⟨rfl, rfl⟩) (fun vs w w' hg hst => hs _ _ _ hg hst) (fun vs w hK hS hf => ⟨true, by simp only [Want, hg], fun K hKK => by
    rw [if_pos rfl]
    refine h vs w hK hS (Fall.mk hf) K (fun v w' h1 h2 h3 => hKK v w' ⟨?_, h2, fun g hg => h3 g ?_⟩)
    · show G (upd vs k v k) w'
      rw [upd_same]; exact h1
    · have hg' : own (upd vs k v k) g := hg
      rwa [upd_same] at hg'⟩) hr
/-- the same; what is known speaks of the values of those in 'deps' too -/
theorem RK.opD (F : Vs → World → Prop) (own : Vs → Nat → Prop) (uses eats deps : List Nat) (hd : ∀ vs vs' : Vs, (∀ i ∈ k :: deps, vs i = vs' i) → F vs = F vs' ∧ own vs = own vs')
    (hs : ∀ vs w w', F vs w → Sta (fun g => (g < w0.heap.size ∧ ¬ X0 g) ∨ own vs g) w w' → F vs w') (hg : o.guard = none)
    (h : ∀ vs w, Keeps X0 w0 w → S w → Fall Γ uses vs w → ∀ K : Act → World → Prop, Shut (∀ v w', F (upd vs k v) w' → Keeps (fun g => ∃ p ∈ eats, Oof Γ p vs g) w w' → (∀ g, own (upd vs k v) g → g < w'.heap.size ∧ (w.heap.size ≤ g ∨ ∃ p ∈ eats, Oof Γ p vs g)) → K ((b vs).put o.dst v) w') → o.wp P (b vs) w K (fun _ _ _ => False))
    (hr : RK P QN X0 w0 S rest (k + 1) (Γ ++ [⟨k, F, own⟩]) (fun vs => (b vs).put o.dst (vs k)) out) : RK P QN X0 w0 S (o :: rest) k Γ b (⟨k, uses, eats, none, deps⟩ :: out) :=
  .op F own uses eats deps none hd hs (fun vs w hK hS hf => ⟨true, by simp only [Want, hg], fun K hKK => by
    rw [if_pos rfl]
    exact h vs w hK hS (Fall.mk hf) K (fun v w' h1 h2 h3 => hKK v w' ⟨h1, h2, h3⟩)⟩) hr
end

section
variable {P : Program} {l : List Oper} {Q : Exit → Act → World → Prop} {a : Act} {w : World} {id : Nat} {out : List Out}
theorem region_up (S : World → Prop) (hm : P.follows .mixedOrders = true) (hg : globChk l.toArray = true) (hS : ∀ w1, Below w.heap.size w w1 → S w1)
    (h : ∀ QN : Act → World → Prop, Shut (∀ a w', Q .normal a w' → QN a w') → RK P QN (fun _ => False) w.drew S l 0 [] (fun _ => a) out) (hc : chkAll l.toArray [] out = true) : (Code.region id l.toArray true).wp P Q a w := by
  refine wp_region_inv S (fun _ => False) (fun _ => True) hm hg (fun g hg => hg.elim) trivial (fun _ _ _ _ => trivial) (fun w1 hK => hS w1 ?_) (show ROK P l.toArray Q (fun _ => False) w.drew S l 0 [] [G0 l.toArray (fun _ => False) (fun _ => True)] (fun _ => a) from ?_)
  · have := hK.up
    exact ⟨this.os, this.tape, this.output, this.size, this.block⟩
  · exact RK.rok (fun a w h => h) (h (fun a w' => Q .normal a w') (fun a w' h => h)) [G0 l.toArray (fun _ => False) (fun _ => True)]
      (fun p vs w h => by
        by_cases e : l.toArray.size = p
        · have h1 : Fof ([] : List Ent) p vs w := trivial
          exact h1
        · exact trivial)
      (fun p vs g h => (h : False).elim) (fun e he => by simp only [List.mem_singleton] at he; subst he; exact Nat.le_refl _) (by simp) [] hc
/-- X0: blocks that the region may write (rows of the call's own); F0: what is known of them at its beginning; number 'n' in 'uses' and 'eats' -/
theorem region_own (n : Nat) (S : World → Prop) (X0 : Nat → Prop) (F0 : World → Prop) (hn : l.length = n) (hm : P.follows .mixedOrders = true) (hg : globChk l.toArray = true) (hX : ∀ g, X0 g → g < w.heap.size) (hF : F0 w.drew)
    (hF0 : ∀ w1 w2, F0 w1 → Sta (fun g => (g < w.heap.size ∧ ¬ X0 g) ∨ X0 g) w1 w2 → F0 w2) (hS : ∀ w1, Keeps X0 w.drew w1 → S w1)
    (h : ∀ QN : Act → World → Prop, Shut (∀ a w', Q .normal a w' → QN a w') → RK P QN X0 w.drew S l 0 [⟨n, fun _ => F0, fun _ => X0⟩] (fun _ => a) out) (hc : chkAll l.toArray [] out = true) : (Code.region id l.toArray true).wp P Q a w := by
  subst hn
  refine wp_region_inv S X0 F0 hm hg hX hF hF0 hS (show ROK P l.toArray Q X0 w.drew S l 0 [] [⟨l.length, fun _ => F0, fun _ => X0⟩] (fun _ => a) from ?_)
  exact RK.rok (Δ := []) (fun a w h => h) (h (fun a w' => Q .normal a w') (fun a w' h => h)) (fun p vs w h => h) (fun p vs g h => h) (fun e he => by cases he) (by simp) [] hc
end
end Go.Proofs.Ytebhhfmekmpnkaa.Rg

/-
  Words for drawn regions: texts, slices of bytes that an operation leaves. No function of the program is named here.
-/
namespace Go.Proofs.Ytebhhfmekmpnkaa
open Go.RowKit
set_option linter.unusedVariables false

/-- a text -/
def tx (l : List UInt8) : ByteArray := ⟨l.toArray⟩
theorem tx_list (l : List UInt8) : (tx l).data.toList = l := by simp [tx]
theorem tx_size (l : List UInt8) : (tx l).size = l.length := by simp [tx, ByteArray.size]
theorem tx_of {s : ByteArray} {l : List UInt8} (h : s.data.toList = l) : s = tx l := by
  subst h; rfl
theorem tx_inj {a b : List UInt8} (h : tx a = tx b) : a = b := by rw [← tx_list a, h, tx_list]
/-- one list behind the other, shut to the walk -/
def cc (a b : List UInt8) : List UInt8 := a ++ b
theorem cc_length (a b : List UInt8) : (cc a b).length = a.length + b.length := by simp [cc]
theorem tx_append (a b : List UInt8) : tx a ++ tx b = tx (cc a b) := tx_of (by simp [ByteArray.data_append, tx_list, cc])
theorem tx_append' (a b : List UInt8) : tx a ++ tx b = tx (a ++ b) := tx_append a b

section
variable {w w' : World} {Y : Nat → Prop}
theorem sta_cell (h : Rg.Sta Y w w') {g o : Nat} (hl : g < w.heap.size) (hy : Y g) : w'.cell? ⟨g, o, none⟩ = w.cell? ⟨g, o, none⟩ := World.cell?_of_block (h.block g hl hy)
theorem sta_some (h : Rg.Sta Y w w') {g o : Nat} {u : Value} (hu : w.cell? ⟨g, o, none⟩ = some u) (hy : Y g) : w'.cell? ⟨g, o, none⟩ = some u :=
  (sta_cell h (World.block_lt_of_cell? w ⟨g, o, none⟩ hu) hy).trans hu
theorem keeps_up {w w' : World} (h : Rg.Keeps (fun _ => False) w.drew w') : Up w w' := by
  have := h.up; exact ⟨this.os, this.tape, this.output, this.size, this.block⟩
end

/-- the value is a slice of new memory that holds these cells -/
def Sl (sz : Nat) (xs : List Value) (v : Value) (W : World) : Prop := ∃ A n c, v = .slice A n c ∧ n ≤ c ∧ Rd W W.heap.size sz A n xs
theorem Sl.sta {sz : Nat} {xs : List Value} {v : Value} {w w' : World} {Y : Nat → Prop} (h : Sl sz xs v w) (hs : Rg.Sta (fun g => Y g ∨ Rg.ob v g) w w') : Sl sz xs v w' := by
  obtain ⟨A, n, c, rfl, hnc, hr⟩ := h
  refine ⟨A, n, c, rfl, hnc, hr.1, fun hn => ?_⟩
  obtain ⟨b, o, rfl, hb, hc⟩ := hr.2 hn
  exact ⟨b, o, rfl, Nat.lt_of_lt_of_le hb hs.size, fun j u hu => sta_some hs (hc j u hu) (.inr rfl)⟩
/-- a new block's own: what 'own' asks -/
theorem own_new {w w' : World} {E : Nat → Prop} {b o n c : Nat} (hb : w.heap.size ≤ b) (hl : b < w'.heap.size) : ∀ g, Rg.ob (.slice (some ⟨b, o, none⟩) n c) g → g < w'.heap.size ∧ (w.heap.size ≤ g ∨ E g) := by
  rintro g rfl; exact ⟨hl, .inl hb⟩
/-- a row of the call's own, made since w -/
theorem own_row {w w' : World} {E : Nat → Prop} {e : TypeId} {sz n : Nat} {v : Value} {xs : List Value} (h : w'.ownsRow w.heap.size e sz v n xs) : ∀ g, Rg.ob v g → g < w'.heap.size ∧ (w.heap.size ≤ g ∨ E g) := by
  rcases h.2 with ⟨rfl, _⟩ | ⟨g', cap, cur, rfl, hg, hh, _⟩
  · intro g hg; exact hg.elim
  · rintro g rfl; exact ⟨(Array.getElem?_eq_some_iff.1 hh).1, .inl hg⟩
theorem Sl.own {w : World} {base : Nat} {e : TypeId} {sz n : Nat} {v : Value} {xs : List Value} (h : w.ownsRow base e sz v n xs) : Sl sz xs v w := by
  obtain ⟨A, c, rfl, hr⟩ := Rd.from_ownsRow h
  exact ⟨A, n, c, rfl, own_cap h, hr⟩

theorem row_sta {w w' : World} {base : Nat} {e : TypeId} {sz n : Nat} {v : Value} {xs : List Value} {Y : Nat → Prop} (h : w.ownsRow base e sz v n xs) (hs : Rg.Sta (fun g => Y g ∨ Rg.ob v g) w w') : w'.ownsRow base e sz v n xs := by
  refine ⟨h.1, ?_⟩
  rcases h.2 with h2 | ⟨g, cap, cur, rfl, hg, hh, r⟩
  · exact .inl h2
  · exact .inr ⟨g, cap, cur, rfl, hg, (hs.block g (Array.getElem?_eq_some_iff.1 hh).1 (.inr rfl)).trans hh, r⟩
theorem ob_of {base : Nat} {w : World} {e : TypeId} {sz n : Nat} {v : Value} {xs : List Value} (h : w.ownsRow base e sz v n xs) {g : Nat} : v.ownBlock = some g ↔ Rg.ob v g := by
  rcases h.2 with ⟨rfl, _⟩ | ⟨g', cap, cur, rfl, _⟩
  · simp [Value.ownBlock, Rg.ob]
  · simp [Value.ownBlock, Rg.ob]
theorem keeps_grown {w w' : World} {base : Nat} {e : TypeId} {sz n : Nat} {v : Value} {xs : List Value} (h : w.ownsRow base e sz v n xs) (hg : w.grownBy w' v.ownBlock) {X : Nat → Prop} (hX : ∀ g, Rg.ob v g → X g) : Rg.Keeps X w w' :=
  ⟨hg.os, hg.tape, hg.output, hg.size, fun k hk hx => hg.block k hk (fun e => hx (hX k ((ob_of h).1 e.symm)))⟩
theorem own_grown {w w' : World} {base n' : Nat} {e : TypeId} {sz n : Nat} {v v' : Value} {xs xs' : List Value} (h : w.ownsRow base e sz v n xs) (h' : w'.ownsRow base e sz v' n' xs') (hat : v'.ownBlock = v.ownBlock ∨ v'.ownBlock = some w.heap.size) {X : Nat → Prop} (hX : ∀ g, Rg.ob v g → X g) :
    ∀ g, Rg.ob v' g → g < w'.heap.size ∧ (w.heap.size ≤ g ∨ X g) := by
  intro g hg
  have hb := (ob_of h').2 hg
  refine ⟨?_, ?_⟩
  · rcases h'.2 with ⟨rfl, _⟩ | ⟨g', cap, cur, rfl, _, hh, _⟩
    · exact hg.elim
    · have : g' = g := hg
      subst this
      exact (Array.getElem?_eq_some_iff.1 hh).1
  · rcases hat with hat | hat
    · rw [hat] at hb; exact .inr (hX g ((ob_of h).1 hb))
    · rw [hat] at hb; injection hb with hb; exact .inl (Nat.le_of_eq hb)
/-- a new block that is a row of the call's own, full -/
theorem row_new (w : World) (cs : Array Value) (t : TypeId) {base sz n : Nat} (hb : base ≤ w.heap.size) (hn : cs.size = n * sz) (hm : n ≤ 9223372036854775807) : (w.alloc (.cells cs t)).ownsRow base t sz (.slice (some ⟨w.heap.size, 0, none⟩) n n) n cs.toList :=
  ⟨by simpa using hn, .inr ⟨w.heap.size, n, cs, rfl, hb, heap_alloc_new w _, Nat.le_refl _, by simpa only [maxLen] using hm, hn, by rw [← hn]; exact List.take_of_length_le (by simp)⟩⟩

theorem exec_str {a : Act} {o : Oper} {x : Operand} {A : Option Addr} {n c B : Nat} {l : List UInt8} {w : World} (ho : o.op = .convert 31 9 x) (hx : a.eval x = .slice A n c) (hr : Rd w B 1 A n (bvs l)) : (execOp a.eval o).run Try.prog w = .ok (.value (.string (tx l))) w := by
  have := run_str c hr
  unfold execOp
  simp only [ho, hx]
  rw [Sem.run_bind, this]
  rfl
theorem blk_cell {w : World} {g : Nat} {cs : Array Value} {t : TypeId} (h : w.heap[g]? = some (.cells cs t (0, 0))) (j : Nat) : w.cell? ⟨g, j, none⟩ = cs[j]? := cell_of_row w g j cs t (0, 0) h
theorem blk_free {w : World} {g : Nat} {cs : Array Value} {t : TypeId} (h : w.heap[g]? = some (.cells cs t (0, 0))) (j : Nat) : w.frozen? ⟨g, j, none⟩ = false := by simp [World.frozen?, h]

theorem tx_toList (l : List UInt8) : (tx l).toList = l := by rw [ByteArray.toList_eq, tx_list]
theorem tx_beq {a b : List UInt8} (h : a = b) : ((tx a).toList == (tx b).toList) = true := by rw [h]; simp
theorem tx_bne {a b : List UInt8} (h : a ≠ b) : ((tx a).toList == (tx b).toList) = false := by rw [tx_toList, tx_toList]; simpa using h

theorem setc_heap (w : World) (g j : Nat) (u : Value) (cs : Array Value) (t : TypeId) (h : w.heap[g]? = some (.cells cs t (0, 0))) : (w.setCell ⟨g, j, none⟩ u).heap[g]? = some (.cells (cs.setIfInBounds j u) t (0, 0)) := by
  simp [World.setCell, Array.getElem?_modify, h]
theorem setc_keeps (w w' : World) (g j : Nat) (u : Value) (h : Rg.Keeps (fun x => x = g) w w') : Rg.Keeps (fun x => x = g) w (w'.setCell ⟨g, j, none⟩ u) :=
  ⟨h.os, h.tape, h.output, by simpa [World.setCell] using h.size, fun k hk hne => by
    rw [← h.block k hk hne]
    simp only [World.setCell, Array.getElem?_modify]
    rw [if_neg (fun e => hne e.symm)]⟩
/-- five cells stored one by one -/
theorem set5 (w : World) (g : Nat) (a0 a1 a2 a3 a4 v0 v1 v2 v3 v4 : Value) (t : TypeId) (h : w.heap[g]? = some (.cells #[a0, a1, a2, a3, a4] t (0, 0))) :
    (((((w.setCell ⟨g, 0, none⟩ v0).setCell ⟨g, 1, none⟩ v1).setCell ⟨g, 2, none⟩ v2).setCell ⟨g, 3, none⟩ v3).setCell ⟨g, 4, none⟩ v4).heap[g]? = some (.cells #[v0, v1, v2, v3, v4] t (0, 0)) ∧
    Rg.Keeps (fun x => x = g) w (((((w.setCell ⟨g, 0, none⟩ v0).setCell ⟨g, 1, none⟩ v1).setCell ⟨g, 2, none⟩ v2).setCell ⟨g, 3, none⟩ v3).setCell ⟨g, 4, none⟩ v4) := by
  refine ⟨?_, setc_keeps _ _ _ _ _ (setc_keeps _ _ _ _ _ (setc_keeps _ _ _ _ _ (setc_keeps _ _ _ _ _ (setc_keeps _ _ _ _ _ (Rg.Keeps.refl _ _)))))⟩
  have h1 := setc_heap _ g 4 v4 _ _ (setc_heap _ g 3 v3 _ _ (setc_heap _ g 2 v2 _ _ (setc_heap _ g 1 v1 _ _ (setc_heap w g 0 v0 _ _ h))))
  exact h1
theorem Keeps.weak {X Y : Nat → Prop} {w w' : World} (h : Rg.Keeps X w w') (hxy : ∀ g, X g → Y g) : Rg.Keeps Y w w' := ⟨h.os, h.tape, h.output, h.size, fun k hk hn => h.block k hk fun hx => hn (hxy k hx)⟩

/-- two bytes of a literal, as a text -/
theorem two_str (x y : Int) (W : World) (g : Nat) (h0 : W.cell? ⟨g, 0, none⟩ = some (.int .u8 (IntKind.u8.wrap x))) (h1 : W.cell? ⟨g, 1, none⟩ = some (.int .u8 (IntKind.u8.wrap y))) : (convert 31 9 (.slice (some ⟨g, 0, none⟩) 2 2)).run Try.prog W = .ok (.string (tx [byteOf x, byteOf y])) W := by
  refine run_str (B := g + 1) 2 ⟨by simp [bvs], fun _ => ⟨g, 0, rfl, by omega, fun j u hj => ?_⟩⟩
  match j with
  | 0 => simp [bvs] at hj; rw [← hj, bv_byteOf, Nat.zero_add, h0, IntKind.wrap_u8]
  | 1 => simp [bvs] at hj; rw [← hj, bv_byteOf, Nat.zero_add, h1, IntKind.wrap_u8]
  | j + 2 => simp [bvs] at hj
end Go.Proofs.Ytebhhfmekmpnkaa

/-
  Rows of unlike types lie apart. No program is named here.
-/
namespace Go.Proofs.Ytebhhfmekmpnkaa
open Go.RowKit
set_option linter.unusedVariables false

/-- a row lies as it lay where another one of another type has grown -/
theorem own_apart {w w' : World} {base base' : Nat} {e e' : TypeId} {sz sz' n n' : Nat} {v v' : Value} {xs xs' : List Value} (h : w.ownsRow base e sz v n xs) (h2 : w.ownsRow base' e' sz' v' n' xs') (hne : e ≠ e') (hg : w.grownBy w' v'.ownBlock) : w'.ownsRow base e sz v n xs := by
  refine ⟨h.1, ?_⟩
  rcases h.2 with h3 | ⟨g, cap, cur, hv, hb, hh, r⟩
  · exact .inl h3
  · refine .inr ⟨g, cap, cur, hv, hb, (hg.block g (Array.getElem?_eq_some_iff.1 hh).1 (fun e9 => ?_)).trans hh, r⟩
    rcases h2.2 with ⟨h4, _⟩ | ⟨g', cap', cur', h4, _, hh', _⟩
    · rw [h4] at e9; cases e9
    · rw [h4] at e9
      simp only [Value.ownBlock, Option.some.injEq] at e9
      subst e9
      rw [hh] at hh'
      injection hh' with hh'
      injection hh' with q1 q2
      exact hne q2
end Go.Proofs.Ytebhhfmekmpnkaa

/-
  The disk: its plain state, and how it lies in memory.
-/
namespace Go.Proofs.Ytebhhfmekmpnkaa
open Go.RowKit Go.Maps
set_option linter.unusedVariables false
set_option linter.unusedSimpArgs false

/-! ### the plain state -/
abbrev Mp := DataW Unit
def nk (s : List UInt8) : Lit := .string s
def fiv (i : Nat) : Mp := .lit (.int .i64 (i : Int))
/-- every entry leads to one of the first n files -/
def MOk (D : Mp) (n : Nat) : Prop := Tidy D ∧ ∀ kl, Maps.has D kl = true → ∃ i < n, ∀ z, D.atKey kl z = fiv i
def mget (D : Mp) (s : List UInt8) : Nat := match D.atKey (nk s) (fiv 0) with | .lit (.int .i64 c) => c.toNat | _ => 0
structure Fi where
  b : List UInt8
  last : Nat
structure Tn where
  kind : Nat
  file : Nat
  a : List UInt8
  b : List UInt8
def Tn.cs (t : Tn) : List Value := [.int .i64 (t.kind : Int), .int .i64 (t.file : Int), .string (tx t.a), .string (tx t.b)]
def tcs (l : List Tn) : List Value := l.flatMap Tn.cs
structure Dk where
  quota : Nat
  files : List Fi
  names : Mp
  lasted : Mp
  turns : List Tn
  calls : Nat
  dead : Bool
  stop : Nat
  fail : Nat
structure DkOk (d : Dk) : Prop where
  nm : MOk d.names d.files.length
  la : MOk d.lasted d.files.length
  tn : ∀ t ∈ d.turns, t.file < d.files.length ∨ t.kind ≠ 1
  nf : d.files.length ≤ 1000000
  nt : d.turns.length ≤ 1000000
  sn : Maps.size d.names ≤ 1000000
  sl : Maps.size d.lasted ≤ 1000000
  fb : ∀ f ∈ d.files, f.b.length ≤ 250000 ∧ f.last ≤ f.b.length
  s : d.stop ≤ 9223372036854775807
  f : d.fail ≤ 9223372036854775807
  q : d.quota ≤ 9223372036854775807

/-! ### in memory -/
structure Fl where
  g : Nat
  A : Option Addr
  c : Nat
structure Hp where
  g : Nat
  fa : Option Addr
  fc : Nat
  fl : List Fl
  nb : Nat
  lb : Nat
  ta : Option Addr
  tc : Nat
def pfs (l : List Fl) : List Value := l.map fun f => .pointer (some ⟨f.g, 0, none⟩)
def inA (A : Option Addr) (k : Nat) : Prop := ∃ a, A = some a ∧ a.block = k
def foot (h : Hp) (k : Nat) : Prop := k = h.g ∨ k = h.nb ∨ k = h.lb ∨ inA h.fa k ∨ inA h.ta k ∨ ∃ f ∈ h.fl, k = f.g ∨ inA f.A k
def dcs (d : Dk) (h : Hp) : Array Value := #[.int .i64 (d.quota : Int), .slice h.fa d.files.length h.fc, .map (some h.nb), .map (some h.lb), .slice h.ta d.turns.length h.tc, .int .i64 (d.calls : Int), .bool d.dead, .int .i64 (d.stop : Int), .int .i64 (d.fail : Int)]
structure FileAt (B : Nat) (f : Fl) (x : Fi) (w : World) : Prop where
  blk : w.heap[f.g]? = some (.cells #[.slice f.A x.b.length f.c, .int .i64 (x.last : Int)] 78 (0, 0))
  own : OwnB w B f.A x.b.length f.c x.b
  base : B ≤ f.g
structure DiskAt (B : Nat) (h : Hp) (d : Dk) (w : World) : Prop where
  hd : w.heap[h.g]? = some (.cells (dcs d h) 71 (0, 0))
  base : B ≤ h.g
  files : w.ownsRow B 73 1 (.slice h.fa d.files.length h.fc) d.files.length (pfs h.fl)
  flen : h.fl.length = d.files.length
  each : ∀ (i : Nat) (f : Fl) (x : Fi), h.fl[i]? = some f → d.files[i]? = some x → FileAt B f x w
  apart : ∀ (i j : Nat) (f f' : Fl), i ≠ j → h.fl[i]? = some f → h.fl[j]? = some f' → f.g ≠ f'.g ∧ ∀ k, inA f.A k → ¬ inA f'.A k
  names : w.ownsMap Try.prog 9 (plainElem Try.prog 3) h.nb (Maps.size d.names) d.names
  lasted : w.ownsMap Try.prog 9 (plainElem Try.prog 3) h.lb (Maps.size d.lasted) d.lasted
  nl : h.nb ≠ h.lb
  nbase : B ≤ h.nb ∧ B ≤ h.lb
  turns : w.ownsRow B 76 4 (.slice h.ta d.turns.length h.tc) d.turns.length (tcs d.turns)

theorem own_keepsX {w w' : World} {base n c : Nat} {e : TypeId} {sz : Nat} {A : Option Addr} {xs : List Value} {X : Nat → Prop} (h : w.ownsRow base e sz (.slice A n c) n xs) (hK : Rg.Keeps X w w') (hx : ∀ k, inA A k → ¬ X k) : w'.ownsRow base e sz (.slice A n c) n xs := by
  refine ⟨h.1, ?_⟩
  rcases h.2 with h2 | ⟨g, cap, cur, hv, hg, hh, r⟩
  · exact .inl h2
  · refine .inr ⟨g, cap, cur, hv, hg, (hK.block g (Array.getElem?_eq_some_iff.1 hh).1 (hx g ?_)).trans hh, r⟩
    injection hv with hA
    exact ⟨_, hA, rfl⟩
theorem map_keepsX {w w' : World} {b n : Nat} {D : Mp} {X : Nat → Prop} (h : w.ownsMap Try.prog 9 (plainElem Try.prog 3) b n D) (hK : Rg.Keeps X w w') (hx : ¬ X b) : w'.ownsMap Try.prog 9 (plainElem Try.prog 3) b n D := by
  have hlt := h.lt
  obtain ⟨es, clock, hb, r⟩ := h
  exact ⟨es, clock, (hK.block b hlt hx).trans hb, r⟩
theorem map_tight {w : World} {b n : Nat} {D : Mp} (h : w.ownsMap Try.prog 9 (plainElem Try.prog 3) b n D) : w.ownsMap Try.prog 9 (plainElem Try.prog 3) b (Maps.size D) D := by
  obtain ⟨es, clock, hb, F, hs, rfl⟩ := h
  refine ⟨es, clock, hb, F, ?_, rfl⟩
  rw [Maps.size_eq, length_sorted]
  simp
theorem FileAt.keepsX {B : Nat} {f : Fl} {x : Fi} {w w' : World} {X : Nat → Prop} (h : FileAt B f x w) (hK : Rg.Keeps X w w') (h1 : ¬ X f.g) (h2 : ∀ k, inA f.A k → ¬ X k) : FileAt B f x w' :=
  ⟨(hK.block _ (Array.getElem?_eq_some_iff.1 h.blk).1 h1).trans h.blk, own_keepsX h.own hK h2, h.base⟩
theorem DiskAt.keepsX {B : Nat} {h : Hp} {d : Dk} {w w' : World} {X : Nat → Prop} (H : DiskAt B h d w) (hK : Rg.Keeps X w w') (hx : ∀ k, foot h k → ¬ X k) : DiskAt B h d w' where
  hd := (hK.block _ (Array.getElem?_eq_some_iff.1 H.hd).1 (hx _ (.inl rfl))).trans H.hd
  base := H.base
  files := own_keepsX H.files hK (fun k hk => hx k (.inr (.inr (.inr (.inl hk)))))
  flen := H.flen
  each := fun i f x hf hx2 => (H.each i f x hf hx2).keepsX hK (hx _ (.inr (.inr (.inr (.inr (.inr ⟨f, List.mem_of_getElem? hf, .inl rfl⟩)))))) (fun k hk => hx k (.inr (.inr (.inr (.inr (.inr ⟨f, List.mem_of_getElem? hf, .inr hk⟩))))))
  apart := H.apart
  names := map_keepsX H.names hK (hx _ (.inr (.inl rfl)))
  lasted := map_keepsX H.lasted hK (hx _ (.inr (.inr (.inl rfl))))
  nl := H.nl
  nbase := H.nbase
  turns := own_keepsX H.turns hK (fun k hk => hx k (.inr (.inr (.inr (.inr (.inl hk))))))
/-- all of it lies below the world's end, and from B on -/
theorem inA_own {w : World} {base n c : Nat} {e : TypeId} {sz : Nat} {A : Option Addr} {xs : List Value} (h : w.ownsRow base e sz (.slice A n c) n xs) {k : Nat} (hk : inA A k) : base ≤ k ∧ k < w.heap.size := by
  obtain ⟨a, rfl, rfl⟩ := hk
  exact h.lt a.block rfl
theorem DiskAt.lt {B : Nat} {h : Hp} {d : Dk} {w : World} (H : DiskAt B h d w) {k : Nat} (hk : foot h k) : B ≤ k ∧ k < w.heap.size := by
  rcases hk with rfl | rfl | rfl | hk | hk | ⟨f, hf, hk⟩
  · exact ⟨H.base, (Array.getElem?_eq_some_iff.1 H.hd).1⟩
  · exact ⟨H.nbase.1, H.names.lt⟩
  · exact ⟨H.nbase.2, H.lasted.lt⟩
  · exact inA_own H.files hk
  · exact inA_own H.turns hk
  · obtain ⟨i, hi, rfl⟩ := List.getElem_of_mem hf
    have hl := H.flen
    have hF := H.each i h.fl[i] (d.files[i]'(by omega)) (List.getElem?_eq_getElem hi) (List.getElem?_eq_getElem (by omega))
    rcases hk with rfl | hk
    · exact ⟨hF.base, (Array.getElem?_eq_some_iff.1 hF.blk).1⟩
    · exact inA_own hF.own hk
theorem DiskAt.up {B : Nat} {h : Hp} {d : Dk} {w w' : World} (H : DiskAt B h d w) (hu : Up w w') : DiskAt B h d w' :=
  H.keepsX (X := fun k => ¬ k < w.heap.size) ⟨hu.os, hu.tape, hu.output, hu.size, fun k hk _ => hu.block k hk⟩ (fun k hk hn => hn (H.lt hk).2)
/-- what an operation of the disk does to memory -/
structure DkTo (h : Hp) (w : World) (h' : Hp) (w' : World) : Prop where
  g : h'.g = h.g
  kept : Rg.Keeps (foot h) w w'
  foot : ∀ k, foot h' k → foot h k ∨ w.heap.size ≤ k
theorem DkTo.refl (h : Hp) (w : World) : DkTo h w h w := ⟨rfl, Rg.Keeps.refl _ _, fun k hk => .inl hk⟩
theorem Keeps.trans2 {X : Nat → Prop} {a b c : World} (h : Rg.Keeps X a b) (k : Rg.Keeps X b c) : Rg.Keeps X a c :=
  ⟨k.os.trans h.os, k.tape.trans h.tape, k.output.trans h.output, Nat.le_trans h.size k.size, fun i hi hx => (k.block i (Nat.lt_of_lt_of_le hi h.size) hx).trans (h.block i hi hx)⟩
theorem DkTo.trans {h h' h'' : Hp} {w w' w'' : World} (x : DkTo h w h' w') (y : DkTo h' w' h'' w'') : DkTo h w h'' w'' := by
  refine ⟨y.g.trans x.g, ⟨y.kept.os.trans x.kept.os, y.kept.tape.trans x.kept.tape, y.kept.output.trans x.kept.output, Nat.le_trans x.kept.size y.kept.size, fun i hi hx => ?_⟩, fun k hk => ?_⟩
  · refine (y.kept.block i (Nat.lt_of_lt_of_le hi x.kept.size) (fun hf => ?_)).trans (x.kept.block i hi hx)
    rcases x.foot i hf with h1 | h1
    · exact hx h1
    · omega
  · rcases y.foot k hk with h1 | h1
    · exact x.foot k h1
    · exact .inr (Nat.le_trans x.kept.size h1)
theorem DkTo.up {h : Hp} {w w' : World} (hu : Up w w') : DkTo h w h w' := ⟨rfl, Rg.Keeps.of_up hu, fun k hk => .inl hk⟩
/-- what the disk does keeps all that lies below where it begins -/
theorem DkTo.below {B : Nat} {h h' : Hp} {d : Dk} {w0 w w' : World} (x : DkTo h w h' w') (H : DiskAt B h d w) (hB : w0.heap.size ≤ B) (hu : Up w0 w) : Up w0 w' :=
  ⟨x.kept.os.trans hu.os, x.kept.tape.trans hu.tape, x.kept.output.trans hu.output, Nat.le_trans hu.size x.kept.size, fun k hk => (x.kept.block k (Nat.lt_of_lt_of_le hk hu.size) (fun hf => by have := (H.lt hf).1; omega)).trans (hu.block k hk)⟩
/-- the head alone has turned -/
theorem DiskAt.head {B : Nat} {h : Hp} {d d' : Dk} {w w' : World} (H : DiskAt B h d w) (hK : Rg.Keeps (fun k => k = h.g) w w') (hd : w'.heap[h.g]? = some (.cells (dcs d' h) 71 (0, 0)))
    (e1 : d'.files = d.files) (e2 : d'.names = d.names) (e3 : d'.lasted = d.lasted) (e4 : d'.turns = d.turns) : DiskAt B h d' w' := by
  have hne : ∀ k o, w.heap[k]? = some o → o ≠ .cells (dcs d h) 71 (0, 0) → ¬ k = h.g := fun k o h1 h2 e => by
    subst e
    rw [H.hd] at h1
    injection h1 with h1
    exact h2 h1.symm
  have hrow : ∀ {n c : Nat} {e : TypeId} {sz : Nat} {A : Option Addr} {xs : List Value}, w.ownsRow B e sz (.slice A n c) n xs → e ≠ 71 → ∀ k, inA A k → ¬ k = h.g := by
    intro n c e sz A xs h1 h2 k hk
    obtain ⟨a, rfl, rfl⟩ := hk
    rcases h1.2 with ⟨hv, _⟩ | ⟨g, cap, cur, hv, hg, hh, r⟩
    · cases hv
    · injection hv with hA
      injection hA with hA
      subst hA
      refine hne _ _ hh (fun e9 => ?_)
      injection e9 with _ e9
      exact h2 e9
  refine ⟨hd, H.base, ?_, by rw [e1]; exact H.flen, fun i f x hf hx => ?_, H.apart, ?_, ?_, H.nl, H.nbase, ?_⟩
  · rw [e1]; exact own_keepsX H.files hK (hrow H.files (by decide))
  · rw [e1] at hx
    have hF := H.each i f x hf hx
    refine hF.keepsX hK (hne _ _ hF.blk (fun e9 => ?_)) (hrow hF.own (by decide))
    injection e9 with _ e9
    exact absurd e9 (by decide)
  · rw [e2]
    refine map_keepsX H.names hK (fun e9 => ?_)
    obtain ⟨es, clock, hb, _⟩ := H.names
    exact hne _ _ hb (by intro e8; cases e8) e9
  · rw [e3]
    refine map_keepsX H.lasted hK (fun e9 => ?_)
    obtain ⟨es, clock, hb, _⟩ := H.lasted
    exact hne _ _ hb (by intro e8; cases e8) e9
  · rw [e4]; exact own_keepsX H.turns hK (hrow H.turns (by decide))
end Go.Proofs.Ytebhhfmekmpnkaa

/-
  The walks of the disk's named, Dead, call, and of what it takes of sync/atomic.
-/
namespace Go.Proofs.Ytebhhfmekmpnkaa
open Go.RowKit Go.Maps
set_option linter.unusedVariables false
set_option linter.unusedSimpArgs false

def nameC (c : UInt8) : Bool := (decide (97 ≤ c.toNat) && decide (c.toNat ≤ 122)) || (decide (48 ≤ c.toNat) && decide (c.toNat ≤ 57)) || decide (c.toNat = 46)
def nameB (l : List UInt8) : Bool := decide (1 ≤ l.length) && (decide (l.length ≤ 16) && l.all nameC)
theorem nameB_bad {l : List UInt8} {k : Nat} (hk : k < l.length) (h : nameC (l.getD k 0) = false) : nameB l = false := by
  have hg : l.getD k 0 = l[k] := by rw [List.getD_eq_getElem?_getD, List.getElem?_eq_getElem hk]; rfl
  rw [hg] at h
  have : l.all nameC = false := by
    rw [List.all_eq_false]
    exact ⟨l[k], List.getElem_mem _, by rw [h]; decide⟩
  unfold nameB
  rw [this]
  simp
theorem nameB_good {l : List UInt8} (h1 : 1 ≤ l.length) (h2 : l.length ≤ 16) (h : ∀ j, j < l.length → nameC (l.getD j 0) = true) : nameB l = true := by
  have : l.all nameC = true := by
    rw [List.all_eq_true]
    intro c hc
    obtain ⟨j, hj, rfl⟩ := List.getElem_of_mem hc
    have := h j hj
    rwa [List.getD_eq_getElem?_getD, List.getElem?_eq_getElem hj] at this
  unfold nameB
  rw [this]
  simp
  omega
theorem getD_strD {s : ByteArray} {l : List UInt8} (hs : s.data.toList = l) {k : Nat} (hk : k < s.size) : s[k] = l.getD k 0 := by
  subst hs
  have h : k < s.data.size := hk
  show s.data[k] = _
  simp only [List.getD, Array.getElem?_toList, Array.getElem?_eq_getElem h, Option.getD_some]
set_option maxRecDepth 100000 in
set_option maxHeartbeats 1600000 in
theorem named_at (s : ByteArray) (l : List UInt8) (w : World) (hs : s.data.toList = l) (hn : s.size ≤ 9223372036854775807) :
    Calls Try.prog 44 #[.string s] w fun e w' => e = .returned (.bool (nameB l)) ∧ w = w' := by
  have hz : s.size = l.length := by subst hs; rfl
  have HS := Lib.hid hs
  have HZ := Lib.hid hz
  clear hs hz
  by_cases h1 : s.size < 1
  · have hb : nameB l = false := by unfold nameB; rw [decide_eq_false (by have := HZ.out; omega)]; rfl
    have HB := Lib.hid hb
    clear hb
    go_enter Try.func44, Try.ntmps44
    have h1i : (s.size : Int) < 1 := by omega
    go_wp2_with fail
    go_ret
    rw [HB.out]
    exact ⟨rfl, rfl⟩
  by_cases h2 : 16 < s.size
  · have hb : nameB l = false := by unfold nameB; rw [decide_eq_false (show ¬ l.length ≤ 16 by have := HZ.out; omega)]; simp
    have HB := Lib.hid hb
    clear hb
    have h1i : ¬ (s.size : Int) < 1 := by omega
    have h2i : (16 : Int) < (s.size : Int) := by omega
    go_enter Try.func44, Try.ntmps44
    go_wp2_with fail
    go_ret
    rw [HB.out]
    exact ⟨rfl, rfl⟩
  have h1i : ¬ (s.size : Int) < 1 := by omega
  have h2i : ¬ (16 : Int) < (s.size : Int) := by omega
  go_enter Try.func44, Try.ntmps44
  go_wp2_with fail
  go_loop [15] (fun i => ∃ k : Nat, i = .int .i64 (k : Int) ∧ k ≤ s.size ∧ Hid (∀ j, j < k → nameC (l.getD j 0) = true)) (fun i => s.size - (intOf i).toNat)
  case atStart => exact ⟨0, rfl, by omega, fun j hj => by omega⟩
  case round =>
    obtain ⟨k, rfl, hk, hok⟩ := hrel
    by_cases hlt : k < s.size
    · have hbl : k < l.length := by have := HZ.out; omega
      have hgd := getD_strD HS.out hlt
      have HBAD := Lib.hid (@nameB_bad l k hbl)
      have HOK2 : Hid (nameC (l.getD k 0) = true → ∀ j, j < k + 1 → nameC (l.getD j 0) = true) := fun h j hj => by
        by_cases hjk : j = k
        · subst hjk; exact h
        · exact hok.out j (by omega)
      generalize l.getD k 0 = ch at *
      have hcb := ch.toNat_lt
      have hlti : (k : Int) < (s.size : Int) := by omega
      have HC : nameC ch = (decide (97 ≤ ch.toNat) && decide (ch.toNat ≤ 122) || (decide (48 ≤ ch.toNat) && decide (ch.toNat ≤ 57)) || decide (ch.toNat = 46)) := rfl
      cases hc : nameC ch with
      | true =>
        have HOK3 := Lib.hid (HOK2.out hc)
        have hcs : (97 ≤ ch.toNat ∧ ch.toNat ≤ 122) ∨ (48 ≤ ch.toNat ∧ ch.toNat ≤ 57) ∨ ch.toNat = 46 := by
          rw [hc] at HC
          have := HC.symm
          simp only [Bool.or_eq_true, Bool.and_eq_true, decide_eq_true_eq] at this
          omega
        clear HC hc HOK2 HBAD
        go_wp2_with fail
        all_goals first
          | (exfalso; simp only [bne_iff_ne, ne_eq, bne_eq_false_iff_eq] at *; omega)
          | (go_round
             case rel => exact ⟨k + 1, by go_num, by omega, HOK3⟩
             case measure => simp [intOf]; omega)
      | false =>
        have HB2 := Lib.hid (HBAD.out hc)
        have hcs : ¬ (97 ≤ ch.toNat ∧ ch.toNat ≤ 122) ∧ ¬ (48 ≤ ch.toNat ∧ ch.toNat ≤ 57) ∧ ¬ ch.toNat = 46 := by
          rw [hc] at HC
          have := HC.symm
          simp only [Bool.or_eq_false_iff, Bool.and_eq_false_iff, decide_eq_false_iff_not] at this
          omega
        clear HC hc HOK2 HBAD
        go_wp2_with fail
        all_goals first
          | (exfalso; simp only [bne_iff_ne, ne_eq, bne_eq_false_iff_eq] at *; omega)
          | (go_ret; rw [HB2.out]; exact ⟨rfl, rfl⟩)
    · have hlti : ¬ (k : Int) < (s.size : Int) := by omega
      have hb : nameB l = true := nameB_good (by have := HZ.out; omega) (by have := HZ.out; omega) (fun j hj => hok.out j (by have := HZ.out; omega))
      have HB := Lib.hid hb
      clear hb
      go_wp2_with fail
      go_ret
      rw [HB.out]
      exact ⟨rfl, rfl⟩
theorem named_any (l : List UInt8) (w : World) (hn : l.length ≤ 9223372036854775807) : Calls Try.prog 44 #[.string (tx l)] w fun e w' => e = .returned (.bool (nameB l)) ∧ w = w' :=
  named_at (tx l) l w (tx_list l) (by rw [tx_size]; exact hn)

theorem iadd_any (g o : Nat) (x y : Int) (w : World) (hc : w.cell? ⟨g, o, none⟩ = some (.int .i64 x)) (hz : w.frozen? ⟨g, o, none⟩ = false) (hb : -9223372036854775808 ≤ x + y ∧ x + y ≤ 9223372036854775807) :
    Calls Try.prog 64 #[.pointer (some ⟨g, o, none⟩), .int .i64 y] w fun e w' => e = .returned (.int .i64 (x + y)) ∧ w' = w.setCell ⟨g, o, none⟩ (.int .i64 (x + y)) := by
  have hwr : IntKind.i64.wrap (x + y) = x + y := IntWalk.i64_in _ hb
  have hadd := run_call_add (P := Try.prog) Try.func76 (by kernel_rfl) (by kernel_rfl) (by kernel_rfl) .i64 (by kernel_rfl) (y := y) (s := x + y) hc hz (by simp [go_sem]; exact hwr)
  clear hwr
  go_enter Try.func64, Try.ntmps64
  go_wp2_with fail
  go_ret
  exact ⟨rfl, rfl⟩
theorem iload_any (g o : Nat) (x : Int) (w : World) (hc : w.cell? ⟨g, o, none⟩ = some (.int .i64 x)) :
    Calls Try.prog 40 #[.pointer (some ⟨g, o, none⟩)] w fun e w' => e = .returned (.int .i64 x) ∧ w' = w := by
  have hl := run_call_load (P := Try.prog) Try.func66 (by kernel_rfl) (by kernel_rfl) (by kernel_rfl) .i64 (by kernel_rfl) hc
  go_enter Try.func40, Try.ntmps40
  go_wp2_with fail
  go_ret
  exact ⟨rfl, rfl⟩
theorem dead_any {B : Nat} {h : Hp} {d : Dk} {w : World} (H : DiskAt B h d w) : Calls Try.prog 19 #[.pointer (some ⟨h.g, 0, none⟩)] w fun e w' => e = .returned (.bool d.dead) ∧ w' = w := by
  have hc := blk_cell H.hd 6
  replace hc : w.cell? ⟨h.g, 6, none⟩ = some (.bool d.dead) := hc
  go_enter Try.func19, Try.ntmps19
  go_wp2_with fail
  go_ret
  exact ⟨rfl, rfl⟩
theorem calls_any {B : Nat} {h : Hp} {d : Dk} {w : World} (H : DiskAt B h d w) : Calls Try.prog 20 #[.pointer (some ⟨h.g, 0, none⟩)] w fun e w' => e = .returned (.int .i64 (d.calls : Int)) ∧ w' = w := by
  have hc := blk_cell H.hd 5
  replace hc : w.cell? ⟨h.g, 5, none⟩ = some (.int .i64 (d.calls : Int)) := hc
  go_enter Try.func20, Try.ntmps20
  go_wp2_with fail
  refine (iload_any h.g 5 (d.calls : Int) w hc).mono ?_
  rintro e w1 ⟨rfl, rfl⟩
  go_wp2_with fail
  go_ret
  exact ⟨rfl, rfl⟩
end Go.Proofs.Ytebhhfmekmpnkaa

/-
  The walks of the disk's call and find, of Stop and Fail.
-/
namespace Go.Proofs.Ytebhhfmekmpnkaa
open Go.RowKit Go.Maps
set_option linter.unusedVariables false
set_option linter.unusedSimpArgs false

def callS (d : Dk) : Dk := if d.stop = 0 then d else { d with stop := d.stop - 1, dead := decide (d.stop - 1 = 0) }
def callD (d : Dk) : Dk × Nat :=
  if d.dead = true then ({ d with calls := d.calls + 1 }, 50)
  else if d.fail = 0 then (callS { d with calls := d.calls + 1 }, 0)
  else if d.fail = 1 then ({ callS { d with calls := d.calls + 1 } with fail := 0 }, 15)
  else ({ callS { d with calls := d.calls + 1 } with fail := d.fail - 1 }, 0)
def callN (L : List (List UInt8)) (d : Dk) : Dk × Nat := if L.all nameB = true then callD d else (d, 10)
theorem callS_same (d : Dk) : (callS d).files = d.files ∧ (callS d).names = d.names ∧ (callS d).lasted = d.lasted ∧ (callS d).turns = d.turns ∧ (callS d).quota = d.quota ∧ (callS d).calls = d.calls ∧ (callS d).stop ≤ d.stop ∧ (callS d).fail = d.fail := by
  unfold callS
  split
  · exact ⟨rfl, rfl, rfl, rfl, rfl, rfl, Nat.le_refl _, rfl⟩
  · exact ⟨rfl, rfl, rfl, rfl, rfl, rfl, Nat.sub_le _ _, rfl⟩
theorem callD_same (d : Dk) : (callD d).1.files = d.files ∧ (callD d).1.names = d.names ∧ (callD d).1.lasted = d.lasted ∧ (callD d).1.turns = d.turns ∧ (callD d).1.quota = d.quota ∧ (callD d).1.calls = d.calls + 1 ∧ (callD d).1.stop ≤ d.stop ∧ (callD d).1.fail ≤ d.fail := by
  have h := callS_same { d with calls := d.calls + 1 }
  simp only [] at h
  obtain ⟨h1, h2, h3, h4, h5, h6, h7, h8⟩ := h
  unfold callD
  split
  · exact ⟨rfl, rfl, rfl, rfl, rfl, rfl, Nat.le_refl _, Nat.le_refl _⟩
  · split
    · exact ⟨h1, h2, h3, h4, h5, h6, h7, Nat.le_of_eq h8⟩
    · split
      · exact ⟨h1, h2, h3, h4, h5, h6, h7, Nat.zero_le _⟩
      · exact ⟨h1, h2, h3, h4, h5, h6, h7, Nat.sub_le _ _⟩
theorem callN_same (L : List (List UInt8)) (d : Dk) : (callN L d).1.files = d.files ∧ (callN L d).1.names = d.names ∧ (callN L d).1.lasted = d.lasted ∧ (callN L d).1.turns = d.turns ∧ (callN L d).1.quota = d.quota ∧ (callN L d).1.calls ≤ d.calls + 1 ∧ (callN L d).1.stop ≤ d.stop ∧ (callN L d).1.fail ≤ d.fail := by
  unfold callN
  split
  · have h := callD_same d
    exact ⟨h.1, h.2.1, h.2.2.1, h.2.2.2.1, h.2.2.2.2.1, Nat.le_of_eq h.2.2.2.2.2.1, h.2.2.2.2.2.2⟩
  · exact ⟨rfl, rfl, rfl, rfl, rfl, Nat.le_succ _, Nat.le_refl _, Nat.le_refl _⟩
theorem callN_ok {L : List (List UInt8)} {d : Dk} (h : DkOk d) : DkOk (callN L d).1 := by
  obtain ⟨h1, h2, h3, h4, h5, h6, h7, h8⟩ := callN_same L d
  refine ⟨by rw [h1, h2]; exact h.nm, by rw [h1, h3]; exact h.la, by rw [h1, h4]; exact h.tn, by rw [h1]; exact h.nf, by rw [h4]; exact h.nt, by rw [h2]; exact h.sn, by rw [h3]; exact h.sl, by rw [h1]; exact h.fb, Nat.le_trans h7 h.s, Nat.le_trans h8 h.f, by rw [h5]; exact h.q⟩
def svs (L : List (List UInt8)) : List Value := L.map fun s => .string (tx s)
theorem DiskAt.setHead {B : Nat} {h : Hp} {d : Dk} (d' : Dk) {w : World} (H : DiskAt B h d w) (i : Nat) (v : Value) (hv : (dcs d h).setIfInBounds i v = dcs d' h) (e1 : d'.files = d.files) (e2 : d'.names = d.names) (e3 : d'.lasted = d.lasted) (e4 : d'.turns = d.turns) :
    DiskAt B h d' (w.setCell ⟨h.g, i, none⟩ v) ∧ DkTo h w h (w.setCell ⟨h.g, i, none⟩ v) := by
  have hK : Rg.Keeps (fun k => k = h.g) w (w.setCell ⟨h.g, i, none⟩ v) := setc_keeps _ _ _ _ _ (Rg.Keeps.refl _ _)
  refine ⟨H.head hK ?_ e1 e2 e3 e4, rfl, Keeps.weak hK (fun k hk => .inl hk), fun k hk => .inl hk⟩
  rw [setc_heap w h.g i v _ _ H.hd, hv]
set_option maxRecDepth 100000 in
set_option maxHeartbeats 1600000 in
theorem call_any {B : Nat} {h : Hp} {d : Dk} {w : World} (H : DiskAt B h d w) (hok : DkOk d) (hcl : d.calls ≤ 1000000000) (L : List (List UInt8)) (A : Option Addr) (n c : Nat) (hr : Rd w w.heap.size 1 A n (svs L)) (hl : ∀ s ∈ L, s.length ≤ 9223372036854775807) (hn : n ≤ 1000) :
    Calls Try.prog 36 #[.pointer (some ⟨h.g, 0, none⟩), .slice A n c] w fun e w' => e = .returned (.int .i64 ((callN L d).2 : Int)) ∧ DiskAt B h (callN L d).1 w' ∧ DkTo h w h w' := by
  obtain ⟨quota, files, names, lasted, turns, calls, dead, stop, fail⟩ := d
  (try dsimp only at hcl)
  have hnl : n = L.length := by have := hr.1; simp [svs] at this; omega
  have HNL := Lib.hid hnl
  have hbs : stop ≤ 9223372036854775807 := hok.s
  have hbf : fail ≤ 9223372036854775807 := hok.f
  have c5 : w.cell? ⟨h.g, 5, none⟩ = some (.int .i64 (calls : Int)) := blk_cell H.hd 5
  have z5 := blk_free H.hd 5
  have hadd := fun (W : World) (hc : W.cell? ⟨h.g, 5, none⟩ = some (.int .i64 (calls : Int))) (hz : W.frozen? ⟨h.g, 5, none⟩ = false) => iadd_any h.g 5 (calls : Int) 1 W hc hz (by omega)
  have HADD := Lib.hid hadd
  clear hnl hadd
  go_enter Try.func36, Try.ntmps36
  go_wp2_with fail
  go_loopw [9] (fun i wr => ∃ k : Nat, i = .int .i64 (k : Int) ∧ k ≤ n ∧ wr = w ∧ Hid ((L.take k).all nameB = true)) (fun i _ => n - (intOf i).toNat)
  case atStart => exact ⟨0, rfl, by omega, rfl, rfl⟩
  case round =>
    obtain ⟨k, rfl, hk, rfl, hall⟩ := hrel
    by_cases hlt : k < n
    · have hkl : k < L.length := by have := HNL.out; omega
      obtain ⟨b, o, rfl, hb, hcell⟩ := hr.2 (by omega)
      have hc := hcell k (.string (tx L[k])) (by simp [svs, hkl])
      have hlk := hl L[k] (List.getElem_mem _)
      have hsn : (L.take (k + 1)).all nameB = ((L.take k).all nameB && nameB L[k]) := by rw [List.take_add_one, List.all_append, List.getElem?_eq_getElem hkl]; simp
      have hbad : nameB L[k] = false → L.all nameB = false := fun h9 => by
        rw [List.all_eq_false]
        exact ⟨_, List.getElem_mem hkl, by rw [h9]; decide⟩
      have HSN := Lib.hid hsn
      have HBAD := Lib.hid hbad
      have hlti : (k : Int) < (n : Int) := by omega
      generalize L[k] = s at *
      clear hsn hbad hcell
      go_wp2_with fail
      refine (named_any s _ hlk).mono ?_
      rintro e w1 ⟨rfl, rfl⟩
      cases hnb : nameB s with
      | true =>
        have hall2 : Hid ((L.take (k + 1)).all nameB = true) := by
          show _ = _
          rw [HSN.out, hall.out, hnb]; rfl
        clear hnb
        go_wp2_with fail
        go_roundw
        case rel => exact ⟨k + 1, by go_num, by omega, by trivial, hall2⟩
        case measure => simp [intOf]; omega
      | false =>
        have hcn : callN L ⟨quota, files, names, lasted, turns, calls, dead, stop, fail⟩ = (⟨quota, files, names, lasted, turns, calls, dead, stop, fail⟩, 10) := by unfold callN; rw [HBAD.out hnb]; rfl
        have HCN := Lib.hid hcn
        clear hnb hcn
        go_wp2_with fail
        go_ret
        rw [HCN.out]
        exact ⟨rfl, H, DkTo.refl _ _⟩
    · have hlti : ¬ (k : Int) < (n : Int) := by omega
      have hcn : callN L ⟨quota, files, names, lasted, turns, calls, dead, stop, fail⟩ = callD ⟨quota, files, names, lasted, turns, calls, dead, stop, fail⟩ := by
        unfold callN
        have h9 := hall.out
        rw [List.take_of_length_le (by have := HNL.out; omega)] at h9
        rw [if_pos h9]
      have HCN := Lib.hid hcn
      clear hcn
      go_wp2_with fail
      refine (HADD.out _ c5 z5).mono ?_
      rintro e w1 ⟨rfl, rfl⟩
      obtain ⟨H1, D1⟩ := H.setHead ⟨quota, files, names, lasted, turns, calls + 1, dead, stop, fail⟩ 5 (.int .i64 ((calls : Int) + 1)) (by simp [dcs]) rfl rfl rfl rfl
      clear c5 z5 hr HADD hok hall
      generalize wr.setCell ⟨h.g, 5, none⟩ (.int .i64 ((calls : Int) + 1)) = w1 at *
      go_wp2_with fail
      refine (dead_any H1).mono ?_
      rintro e w2 ⟨rfl, rfl⟩
      (try dsimp only)
      cases dead with
      | true =>
        go_wp2_with fail
        go_ret
        rw [HCN.out]
        exact ⟨rfl, H1, D1⟩
      | false =>
        have c7 : w2.cell? ⟨h.g, 7, none⟩ = some (.int .i64 (stop : Int)) := blk_cell H1.hd 7
        have z7 := blk_free H1.hd 7
        have c6 : w2.cell? ⟨h.g, 6, none⟩ = some (.bool false) := blk_cell H1.hd 6
        have z6 := blk_free H1.hd 6
        have c8 : w2.cell? ⟨h.g, 8, none⟩ = some (.int .i64 (fail : Int)) := blk_cell H1.hd 8
        have z8 := blk_free H1.hd 8
        by_cases hs : stop = 0
        · have hsi : ¬ (0 : Int) < (stop : Int) := by omega
          have hcd : callS ⟨quota, files, names, lasted, turns, calls + 1, false, stop, fail⟩ = ⟨quota, files, names, lasted, turns, calls + 1, false, stop, fail⟩ := by unfold callS; rw [if_pos hs]
          have HS := Lib.hid hs
          have HCD := Lib.hid hcd
          clear hs hcd
          by_cases hf : fail = 0
          · have hfi : ¬ (0 : Int) < (fail : Int) := by omega
            have hrs : callD ⟨quota, files, names, lasted, turns, calls, false, stop, fail⟩ = (⟨quota, files, names, lasted, turns, calls + 1, false, stop, fail⟩, 0) := by
              unfold callD
              rw [if_neg (by simp), if_pos hf, HCD.out]
            have HRS := Lib.hid hrs
            clear hrs hf
            go_wp2_with fail
            go_ret
            rw [HCN.out, HRS.out]
            exact ⟨rfl, H1, D1⟩
          · have hfi : (0 : Int) < (fail : Int) := by omega
            obtain ⟨H3, D3⟩ := (H1).setHead ⟨quota, files, names, lasted, turns, calls + 1, false, stop, fail - 1⟩ 8 (.int .i64 ((fail : Int) - 1)) (by simp [dcs]; omega) rfl rfl rfl rfl
            have y8 : ((w2).setCell ⟨h.g, 8, none⟩ (.int .i64 ((fail : Int) - 1))).cell? ⟨h.g, 8, none⟩ = some (.int .i64 ((fail : Int) - 1)) := by
              have h9 := blk_cell H3.hd 8
              rw [h9]
              simp [dcs]
              omega
            by_cases hf1 : fail = 1
            · have hfb : ((fail : Int) - 1 == 0) = true := by rw [beq_iff_eq]; omega
              have hrs : callD ⟨quota, files, names, lasted, turns, calls, false, stop, fail⟩ = (⟨quota, files, names, lasted, turns, calls + 1, false, stop, fail - 1⟩, 15) := by
                unfold callD
                rw [if_neg (by simp), if_neg hf, if_pos hf1, HCD.out, hf1]
              have HRS := Lib.hid hrs
              clear hrs hf hf1
              go_wp2_with fail
              go_ret
              rw [HCN.out, HRS.out]
              exact ⟨rfl, H3, (D1).trans D3⟩
            · have hfb : ((fail : Int) - 1 == 0) = false := by rw [beq_eq_false_iff_ne]; omega
              have hrs : callD ⟨quota, files, names, lasted, turns, calls, false, stop, fail⟩ = (⟨quota, files, names, lasted, turns, calls + 1, false, stop, fail - 1⟩, 0) := by
                unfold callD
                rw [if_neg (by simp), if_neg hf, if_neg hf1, HCD.out]
              have HRS := Lib.hid hrs
              clear hrs hf hf1
              go_wp2_with fail
              go_ret
              rw [HCN.out, HRS.out]
              exact ⟨rfl, H3, (D1).trans D3⟩
        · have hsi : (0 : Int) < (stop : Int) := by omega
          obtain ⟨H2, D2⟩ := H1.setHead ⟨quota, files, names, lasted, turns, calls + 1, false, stop - 1, fail⟩ 7 (.int .i64 ((stop : Int) - 1)) (by simp [dcs]; omega) rfl rfl rfl rfl
          have y7 : (w2.setCell ⟨h.g, 7, none⟩ (.int .i64 ((stop : Int) - 1))).cell? ⟨h.g, 7, none⟩ = some (.int .i64 ((stop : Int) - 1)) := by
            rw [blk_cell H2.hd 7]
            simp [dcs]
            omega
          have y6 : (w2.setCell ⟨h.g, 7, none⟩ (.int .i64 ((stop : Int) - 1))).cell? ⟨h.g, 6, none⟩ = some (.bool false) := blk_cell H2.hd 6
          have x6 := blk_free H2.hd 6
          by_cases hs1 : stop = 1
          · have hsb : ((stop : Int) - 1 == 0) = true := by rw [beq_iff_eq]; omega
            have hcd : callS ⟨quota, files, names, lasted, turns, calls + 1, false, stop, fail⟩ = ⟨quota, files, names, lasted, turns, calls + 1, true, stop - 1, fail⟩ := by
              unfold callS
              rw [if_neg hs]
              simp
              omega
            obtain ⟨H4, D4⟩ := H2.setHead ⟨quota, files, names, lasted, turns, calls + 1, true, stop - 1, fail⟩ 6 (.bool true) rfl rfl rfl rfl rfl
            have HCD := Lib.hid hcd
            have D14 := D1.trans (D2.trans D4)
            have HSX := Lib.hid hs1
            clear hcd hs hs1
            have x8 : ((w2.setCell ⟨h.g, 7, none⟩ (.int .i64 ((stop : Int) - 1))).setCell ⟨h.g, 6, none⟩ (.bool true)).cell? ⟨h.g, 8, none⟩ = some (.int .i64 (fail : Int)) := blk_cell H4.hd 8
            have w8 := blk_free H4.hd 8
            by_cases hf : fail = 0
            · have hfi : ¬ (0 : Int) < (fail : Int) := by omega
              have hrs : callD ⟨quota, files, names, lasted, turns, calls, false, stop, fail⟩ = (⟨quota, files, names, lasted, turns, calls + 1, true, stop - 1, fail⟩, 0) := by
                unfold callD
                rw [if_neg (by simp), if_pos hf, HCD.out]
              have HRS := Lib.hid hrs
              clear hrs hf
              go_wp2_with fail
              go_ret
              rw [HCN.out, HRS.out]
              exact ⟨rfl, H4, D14⟩
            · have hfi : (0 : Int) < (fail : Int) := by omega
              obtain ⟨H3, D3⟩ := (H4).setHead ⟨quota, files, names, lasted, turns, calls + 1, true, stop - 1, fail - 1⟩ 8 (.int .i64 ((fail : Int) - 1)) (by simp [dcs]; omega) rfl rfl rfl rfl
              have y8 : (((w2.setCell ⟨h.g, 7, none⟩ (.int .i64 ((stop : Int) - 1))).setCell ⟨h.g, 6, none⟩ (.bool true)).setCell ⟨h.g, 8, none⟩ (.int .i64 ((fail : Int) - 1))).cell? ⟨h.g, 8, none⟩ = some (.int .i64 ((fail : Int) - 1)) := by
                have h9 := blk_cell H3.hd 8
                rw [h9]
                simp [dcs]
                omega
              by_cases hf1 : fail = 1
              · have hfb : ((fail : Int) - 1 == 0) = true := by rw [beq_iff_eq]; omega
                have hrs : callD ⟨quota, files, names, lasted, turns, calls, false, stop, fail⟩ = (⟨quota, files, names, lasted, turns, calls + 1, true, stop - 1, fail - 1⟩, 15) := by
                  unfold callD
                  rw [if_neg (by simp), if_neg hf, if_pos hf1, HCD.out, hf1]
                have HRS := Lib.hid hrs
                clear hrs hf hf1
                go_wp2_with fail
                go_ret
                rw [HCN.out, HRS.out]
                exact ⟨rfl, H3, (D14).trans D3⟩
              · have hfb : ((fail : Int) - 1 == 0) = false := by rw [beq_eq_false_iff_ne]; omega
                have hrs : callD ⟨quota, files, names, lasted, turns, calls, false, stop, fail⟩ = (⟨quota, files, names, lasted, turns, calls + 1, true, stop - 1, fail - 1⟩, 0) := by
                  unfold callD
                  rw [if_neg (by simp), if_neg hf, if_neg hf1, HCD.out]
                have HRS := Lib.hid hrs
                clear hrs hf hf1
                go_wp2_with fail
                go_ret
                rw [HCN.out, HRS.out]
                exact ⟨rfl, H3, (D14).trans D3⟩
          · have hsb : ((stop : Int) - 1 == 0) = false := by rw [beq_eq_false_iff_ne]; omega
            have hcd : callS ⟨quota, files, names, lasted, turns, calls + 1, false, stop, fail⟩ = ⟨quota, files, names, lasted, turns, calls + 1, false, stop - 1, fail⟩ := by
              unfold callS
              rw [if_neg hs]
              simp
              omega
            obtain ⟨H4, D4⟩ := H2.setHead ⟨quota, files, names, lasted, turns, calls + 1, false, stop - 1, fail⟩ 6 (.bool false) rfl rfl rfl rfl rfl
            have HCD := Lib.hid hcd
            have D14 := D1.trans (D2.trans D4)
            have HSX := Lib.hid hs1
            clear hcd hs hs1
            have x8 : ((w2.setCell ⟨h.g, 7, none⟩ (.int .i64 ((stop : Int) - 1))).setCell ⟨h.g, 6, none⟩ (.bool false)).cell? ⟨h.g, 8, none⟩ = some (.int .i64 (fail : Int)) := blk_cell H4.hd 8
            have w8 := blk_free H4.hd 8
            by_cases hf : fail = 0
            · have hfi : ¬ (0 : Int) < (fail : Int) := by omega
              have hrs : callD ⟨quota, files, names, lasted, turns, calls, false, stop, fail⟩ = (⟨quota, files, names, lasted, turns, calls + 1, false, stop - 1, fail⟩, 0) := by
                unfold callD
                rw [if_neg (by simp), if_pos hf, HCD.out]
              have HRS := Lib.hid hrs
              clear hrs hf
              go_wp2_with fail
              go_ret
              rw [HCN.out, HRS.out]
              exact ⟨rfl, H4, D14⟩
            · have hfi : (0 : Int) < (fail : Int) := by omega
              obtain ⟨H3, D3⟩ := (H4).setHead ⟨quota, files, names, lasted, turns, calls + 1, false, stop - 1, fail - 1⟩ 8 (.int .i64 ((fail : Int) - 1)) (by simp [dcs]; omega) rfl rfl rfl rfl
              have y8 : (((w2.setCell ⟨h.g, 7, none⟩ (.int .i64 ((stop : Int) - 1))).setCell ⟨h.g, 6, none⟩ (.bool false)).setCell ⟨h.g, 8, none⟩ (.int .i64 ((fail : Int) - 1))).cell? ⟨h.g, 8, none⟩ = some (.int .i64 ((fail : Int) - 1)) := by
                have h9 := blk_cell H3.hd 8
                rw [h9]
                simp [dcs]
                omega
              by_cases hf1 : fail = 1
              · have hfb : ((fail : Int) - 1 == 0) = true := by rw [beq_iff_eq]; omega
                have hrs : callD ⟨quota, files, names, lasted, turns, calls, false, stop, fail⟩ = (⟨quota, files, names, lasted, turns, calls + 1, false, stop - 1, fail - 1⟩, 15) := by
                  unfold callD
                  rw [if_neg (by simp), if_neg hf, if_pos hf1, HCD.out, hf1]
                have HRS := Lib.hid hrs
                clear hrs hf hf1
                go_wp2_with fail
                go_ret
                rw [HCN.out, HRS.out]
                exact ⟨rfl, H3, (D14).trans D3⟩
              · have hfb : ((fail : Int) - 1 == 0) = false := by rw [beq_eq_false_iff_ne]; omega
                have hrs : callD ⟨quota, files, names, lasted, turns, calls, false, stop, fail⟩ = (⟨quota, files, names, lasted, turns, calls + 1, false, stop - 1, fail - 1⟩, 0) := by
                  unfold callD
                  rw [if_neg (by simp), if_neg hf, if_neg hf1, HCD.out]
                have HRS := Lib.hid hrs
                clear hrs hf hf1
                go_wp2_with fail
                go_ret
                rw [HCN.out, HRS.out]
                exact ⟨rfl, H3, (D14).trans D3⟩
end Go.Proofs.Ytebhhfmekmpnkaa

/-
  The walks of the disk's find, used, Used, Stop, Fail.
-/
namespace Go.Proofs.Ytebhhfmekmpnkaa
open Go.RowKit Go.Maps
set_option linter.unusedVariables false
set_option linter.unusedSimpArgs false

theorem mget_of {D : Mp} {s : List UInt8} {i : Nat} (h : ∀ z, D.atKey (nk s) z = fiv i) : mget D s = i := by
  unfold mget
  rw [h (fiv 0)]
  rfl
/-- a name's file's number -/
def findI (d : Dk) (s : List UInt8) : Option Nat := if Maps.has d.names (nk s) = true then some (mget d.names s) else none
theorem findI_lt {d : Dk} (hok : DkOk d) {s : List UInt8} {i : Nat} (h : findI d s = some i) : i < d.files.length := by
  unfold findI at h
  split at h
  · rename_i hh
    injection h with h
    obtain ⟨j, hj, hat⟩ := hok.nm.2 _ hh
    rw [mget_of hat] at h
    omega
  · cases h
theorem strKey : Keyed Try.prog 9 := string_keyed Try.underlying9
theorem zeroInt (w : World) : (zeroValue 3).run Try.prog w = .ok (.int .i64 0) w := by kernel_rfl
theorem key_str (s : List UInt8) (h : s.length ≤ 9223372036854775807) : keyOf Try.prog 9 (.string (tx s)) = some (nk s) := by
  have h2 := Go.WideMaps.keyOf_string_mk (P := Try.prog) Try.underlying9 (s := tx s) (by rw [tx_size]; simpa only [maxLen] using h)
  rw [tx_list] at h2
  exact h2
theorem file_cell {B : Nat} {h : Hp} {d : Dk} {w : World} (H : DiskAt B h d w) {i : Nat} (hi : i < d.files.length) : ∃ b f x, h.fa = some ⟨b, 0, none⟩ ∧ h.fl[i]? = some f ∧ d.files[i]? = some x ∧ w.cell? ⟨b, i, none⟩ = some (.pointer (some ⟨f.g, 0, none⟩)) ∧ FileAt B f x w := by
  have hl := H.flen
  have hf : h.fl[i]? = some h.fl[i] := List.getElem?_eq_getElem (by omega)
  have hx : d.files[i]? = some d.files[i] := List.getElem?_eq_getElem hi
  obtain ⟨g, hg, _, _⟩ := own_some H.files (by omega)
  obtain ⟨b, o, e, hb, hc⟩ := (Rd.own H.files).2 (by omega)
  rw [hg] at e
  injection e with e
  injection e with e1 e2
  subst e1; subst e2
  have hc2 := hc i (.pointer (some ⟨h.fl[i].g, 0, none⟩)) (by simp [pfs, hf])
  rw [Nat.zero_add] at hc2
  exact ⟨g, h.fl[i], d.files[i], hg, hf, hx, hc2, H.each i _ _ hf hx⟩
set_option maxRecDepth 100000 in
theorem find_any {B : Nat} {h : Hp} {d : Dk} {w : World} (H : DiskAt B h d w) (hok : DkOk d) (s : List UInt8) (hs : s.length ≤ 9223372036854775807) :
    Calls Try.prog 37 #[.pointer (some ⟨h.g, 0, none⟩), .string (tx s)] w fun e w' => w = w' ∧ ((findI d s = none ∧ e = .returned (.pointer none)) ∨
      (∃ i f x, findI d s = some i ∧ h.fl[i]? = some f ∧ d.files[i]? = some x ∧ e = .returned (.pointer (some ⟨f.g, 0, none⟩)))) := by
  have c2 : w.cell? ⟨h.g, 2, none⟩ = some (.map (some h.nb)) := blk_cell H.hd 2
  have hkey := key_str s hs
  cases hh : Maps.has d.names (nk s) with
  | false =>
    have hfi : findI d s = none := by unfold findI; rw [hh]; rfl
    have HF := Lib.hid hfi
    have HK := Lib.hid hkey
    have HH := Lib.hid hh
    clear hfi hkey hh
    go_enter Try.func37, Try.ntmps37
    go_wp2_with (at_lookup; refine wpList_lookup_own_ok_int _ rfl _ _ 62 rfl 9 3 .i64 strKey Try.underlying62 Try.underlying3 (zeroInt _) h.nb _ d.names rfl H.names _ _ rfl HK.out ?_; intro c hat hwc; rw [HH.out])
    go_ret
    exact ⟨rfl, .inl ⟨HF.out, rfl⟩⟩
  | true =>
    obtain ⟨i, hi, hat0⟩ := hok.nm.2 _ hh
    have hfi : findI d s = some i := by unfold findI; rw [hh, if_pos rfl, mget_of hat0]
    obtain ⟨b, f, x, hfa, hf, hx, hc, hF⟩ := file_cell H hi
    have c1 : w.cell? ⟨h.g, 1, none⟩ = some (.slice (some ⟨b, 0, none⟩) d.files.length h.fc) := by have := blk_cell H.hd 1; rw [← hfa]; exact this
    have i1 : (i : Int) < (d.files.length : Int) := by omega
    have HF := Lib.hid hfi
    have HK := Lib.hid hkey
    have HH := Lib.hid hh
    have HA := Lib.hid hat0
    have HFF := Lib.hid hf
    have HX := Lib.hid hx
    clear hfi hkey hh hat0 hf hx hfa
    go_enter Try.func37, Try.ntmps37
    go_wp2_with (at_lookup; refine wpList_lookup_own_ok_int _ rfl _ _ 62 rfl 9 3 .i64 strKey Try.underlying62 Try.underlying3 (zeroInt _) h.nb _ d.names rfl H.names _ _ rfl HK.out ?_; intro c hat hwc; rw [HH.out]; have hci : c = (i : Int) := (by have h9 := HA.out (.lit (.int .i64 0)); rw [hat] at h9; unfold fiv at h9; injection h9 with h9; injection h9); rw [hci]; clear hci hat hwc)
    go_ret
    exact ⟨rfl, .inr ⟨i, f, x, HF.out, HFF.out, HX.out, rfl⟩⟩
end Go.Proofs.Ytebhhfmekmpnkaa
