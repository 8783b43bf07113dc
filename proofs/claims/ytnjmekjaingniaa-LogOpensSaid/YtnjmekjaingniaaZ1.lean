/-
  Texts of this claim, joined: Base, Open, Item, ItemW1, Num, NumW1, NumW2, NumW3, ItemW2, ItemW3, FrameW1, FrameW2, Region.
-/
import Derived.Test.YtnjmekjaingniaaRows
import Derived.WalkKit
import Derived.WalkSpells
import Derived.WalkLawsBesides
import Derived.Lib.Hide
import Derived.Deep.Draws
import Derived.Deep.AppendLies
import Derived.Maps.AppendAt
import Derived.RegionTactic
import Derived.Laws.MakeOwn
import Derived.ProofKit
import Derived.OpenShut
import Derived.ShutString
import Derived.ChangeOld
import Derived.Deep.Slices
import Derived.Deep.Fields
import Derived.Deep.RegionHeld3
import Derived.CheckFast
import Derived.Orders
import Derived.Below
import Derived.Deep.RegionHeld
/-
  Words for memory that the walks share: a slice that reads as a list of values, worlds that only grow, bytes and numbers as values. No program is named here.
-/
namespace Go.Proofs.Ytnjmekjaingniaa
open Go.RowKit
set_option linter.unusedVariables false

/-! ### Worlds that only grow -/

/-- Nothing that is there in w has turned in w'. -/
abbrev Up (w w' : World) : Prop := Below w.heap.size w w'
theorem Up.refl (w : World) : Up w w := Below.refl _ _
theorem Up.trans {a b c : World} (h : Up a b) (k : Up b c) : Up a c := Below.trans h (k.mono h.size)
theorem Up.drew {a w : World} (h : Up a w) : Up a w.drew := Below.drew h
theorem Up.drewN {a w : World} (h : Up a w) (n : Nat) : Up a (w.drewN n) := ⟨h.os, h.tape, h.output, h.size, h.block⟩
theorem Up.alloc {a w : World} (h : Up a w) (o : Obj) : Up a (w.alloc o) := Below.alloc h h.size o
theorem Up.set_ {a w : World} (h : Up a w) {p : Addr} (hp : a.heap.size ≤ p.block) (u : Value) : Up a (w.setCell p u) := Below.setCell h hp u
theorem Up.grown {a w w' : World} {row : Option Nat} (h : Up a w) (hg : w.grownBy w' row) (hr : ∀ k, row = some k → a.heap.size ≤ k) : Up a w' := Below.grown h hg h.size hr

/-! ### A slice that reads as a list of cells -/

/-- The slice with address A and n elements of sz cells each holds the cells xs, in a block below B. -/
def Rd (w : World) (B sz : Nat) (A : Option Addr) (n : Nat) (xs : List Value) : Prop :=
  xs.length = n * sz ∧ (0 < n → ∃ b o, A = some ⟨b, o, none⟩ ∧ b < B ∧ ∀ j u, xs[j]? = some u → w.cell? ⟨b, o + j, none⟩ = some u)

section
variable {w w' : World} {B B' sz n : Nat} {A : Option Addr} {xs : List Value}
theorem Rd.empty : Rd w B sz A 0 [] := ⟨by simp, fun h => absurd h (by omega)⟩
theorem Rd.len (h : Rd w B sz A n xs) : xs.length = n * sz := h.1
theorem Rd.keep (h : Rd w B sz A n xs) (hk : ∀ p : Addr, p.block < B → w'.cell? p = w.cell? p) : Rd w' B sz A n xs :=
  ⟨h.1, fun hn => by
    obtain ⟨b, o, e, hb, hc⟩ := h.2 hn
    exact ⟨b, o, e, hb, fun j u hu => (hk _ hb).trans (hc j u hu)⟩⟩
theorem Rd.mono (h : Rd w B sz A n xs) (hB : B ≤ B') : Rd w B' sz A n xs :=
  ⟨h.1, fun hn => by
    obtain ⟨b, o, e, hb, hc⟩ := h.2 hn
    exact ⟨b, o, e, by omega, hc⟩⟩
theorem Rd.below (h : Rd w B sz A n xs) (hb : Below B w w') : Rd w' B sz A n xs := h.keep fun _ hp => hb.cell hp
theorem Rd.stay (h : Rd w B sz A n xs) (hB : B ≤ w.heap.size) (hb : Up w w') : Rd w' B sz A n xs := h.below (hb.mono hB)
theorem Rd.up (h : Rd w w.heap.size sz A n xs) (hb : Up w w') : Rd w' w'.heap.size sz A n xs := (h.below hb).mono hb.size
theorem Rd.drew (h : Rd w B sz A n xs) : Rd w.drew B sz A n xs := h
theorem Rd.drewN (h : Rd w B sz A n xs) (k : Nat) : Rd (w.drewN k) B sz A n xs := h
theorem Rd.alloc (h : Rd w B sz A n xs) (hB : B ≤ w.heap.size) (o : Obj) : Rd (w.alloc o) B sz A n xs := h.keep fun p hp => World.cell?_alloc_lt w o p (by omega)
theorem Rd.set_ (h : Rd w B sz A n xs) {p : Addr} (hB : B ≤ p.block) (u : Value) : Rd (w.setCell p u) B sz A n xs :=
  h.keep fun q hq => World.cell?_setCell_other w p q u (fun e => by subst e; omega)
theorem Rd.grown (h : Rd w B sz A n xs) {row : Option Nat} (hg : w.grownBy w' row) (hB : B ≤ w.heap.size) (hr : ∀ g, row = some g → B ≤ g) : Rd w' B sz A n xs :=
  h.keep fun p hp => World.cell?_of_block (hg.block p.block (by omega) (fun e => by have := hr _ e.symm; omega))
/-- behind an append: a block that is not the one that was written -/
theorem Rd.far {g o : Nat} (h : Rd w B sz (some ⟨g, o, none⟩) n xs) (hn : 0 < n) {row : Option Nat} (hg : w.grownBy w' row) (hlt : g < w.heap.size) (hne : some g ≠ row) : Rd w' B sz (some ⟨g, o, none⟩) n xs :=
  ⟨h.1, fun _ => by
    obtain ⟨b, o', e, hb, hc⟩ := h.2 hn
    injection e with e
    injection e with e1 e2
    subst e1; subst e2
    exact ⟨g, o, rfl, hb, fun j u hu => (World.cell?_of_block (hg.block g hlt hne)).trans (hc j u hu)⟩⟩
/-- s[k:] -/
theorem Rd.from_ (h : Rd w B sz A n xs) {k cap : Nat} (hk : k ≤ n) (hc : n ≤ cap) : Rd w B sz (if cap = k then A else A.map (·.add (k * sz))) (n - k) (xs.drop (k * sz)) := by
  refine ⟨by rw [List.length_drop, h.1, Nat.sub_mul], fun hn => ?_⟩
  obtain ⟨b, o, rfl, hb, hcell⟩ := h.2 (by omega)
  rw [if_neg (by omega)]
  refine ⟨b, o + k * sz, ?_, hb, fun j u hu => ?_⟩
  · simp only [Option.map_some, Addr.add]
    split
    · rename_i h0; simp [h0]
    · rfl
  · rw [Nat.add_assoc]
    exact hcell _ u (by rw [← hu, List.getElem?_drop])
/-- s[:k] -/
theorem Rd.to_ (h : Rd w B sz A n xs) {k : Nat} (hk : k ≤ n) : Rd w B sz A k (xs.take (k * sz)) := by
  refine ⟨by rw [List.length_take, h.1]; exact Nat.min_eq_left (Nat.mul_le_mul_right _ hk), fun hn => ?_⟩
  obtain ⟨b, o, rfl, hb, hcell⟩ := h.2 (by omega)
  refine ⟨b, o, rfl, hb, fun j u hu => hcell j u ?_⟩
  rw [List.getElem?_take] at hu
  split at hu
  · exact hu
  · cases hu
theorem Rd.own {base : Nat} {e : TypeId} {c : Nat} (h : w.ownsRow base e sz (.slice A n c) n xs) : Rd w w.heap.size sz A n xs := by
  refine ⟨h.1, fun hn => ?_⟩
  rcases h.2 with ⟨hv, h0⟩ | ⟨g, cap, cur, hv, hg, hh, hnc, hcm, hcs, ht⟩
  · omega
  · have hA : A = some ⟨g, 0, none⟩ := by injection hv
    subst hA
    refine ⟨g, 0, rfl, (Array.getElem?_eq_some_iff.1 hh).1, fun j u hu => ?_⟩
    have := h.cells (g := g) rfl j u hu
    have e : (⟨g, 0, none⟩ : Addr).add j = ⟨g, 0 + j, none⟩ := by unfold Addr.add; split <;> simp_all
    rwa [e] at this
end

theorem own_form {w : World} {base : Nat} {e : TypeId} {sz n : Nat} {v : Value} {xs : List Value} (h : w.ownsRow base e sz v n xs) : ∃ A c, v = .slice A n c := by
  rcases h.2 with ⟨rfl, rfl⟩ | ⟨g, cap, cur, rfl, _⟩
  · exact ⟨none, 0, rfl⟩
  · exact ⟨_, _, rfl⟩
theorem own_cap {w : World} {base : Nat} {e : TypeId} {sz n c : Nat} {A : Option Addr} {xs : List Value} (h : w.ownsRow base e sz (.slice A n c) n xs) : n ≤ c := by
  rcases h.2 with ⟨hv, rfl⟩ | ⟨g, cap, cur, hv, _, _, hn, _⟩
  · exact Nat.zero_le _
  · injection hv with _ _ hc; omega
theorem own_some {w : World} {base : Nat} {e : TypeId} {sz n c : Nat} {A : Option Addr} {xs : List Value} (h : w.ownsRow base e sz (.slice A n c) n xs) (hn : 0 < n) : ∃ g, A = some ⟨g, 0, none⟩ ∧ base ≤ g ∧ g < w.heap.size := by
  rcases h.2 with ⟨hv, rfl⟩ | ⟨g, cap, cur, hv, hb, hg, _⟩
  · omega
  · injection hv with hA _ _
    exact ⟨g, hA, hb, (Array.getElem?_eq_some_iff.1 hg).1⟩
theorem own_up {w w' : World} {base : Nat} {e : TypeId} {sz n : Nat} {v : Value} {xs : List Value} (h : w.ownsRow base e sz v n xs) (hu : Up w w') : w'.ownsRow base e sz v n xs := by
  refine ⟨h.1, ?_⟩
  rcases h.2 with h2 | ⟨g, cap, cur, hv, hg, hh, r⟩
  · exact .inl h2
  · exact .inr ⟨g, cap, cur, hv, hg, (hu.block g (Array.getElem?_eq_some_iff.1 hh).1).trans hh, r⟩
theorem own_base {w : World} {base base' : Nat} {e : TypeId} {sz n : Nat} {v : Value} {xs : List Value} (h : w.ownsRow base e sz v n xs) (hb : base' ≤ base) : w.ownsRow base' e sz v n xs := by
  refine ⟨h.1, ?_⟩
  rcases h.2 with h2 | ⟨g, cap, cur, hv, hg, r⟩
  · exact .inl h2
  · exact .inr ⟨g, cap, cur, hv, by omega, r⟩

/-! ### Bytes, numbers -/
def bv (b : UInt8) : Value := .int .u8 (b.toNat : Int)
def qv (n : UInt64) : Value := .int .u64 (n.toNat : Int)
def iv (n : Int64) : Value := .int .i64 n.toInt
def bvs (l : List UInt8) : List Value := l.map bv
def qvs (l : List UInt64) : List Value := l.map qv
theorem bvs_length (l : List UInt8) : (bvs l).length = l.length := by simp [bvs]
theorem qvs_length (l : List UInt64) : (qvs l).length = l.length := by simp [qvs]
theorem bvs_append (a b : List UInt8) : bvs (a ++ b) = bvs a ++ bvs b := by simp [bvs]
theorem qvs_append (a b : List UInt64) : qvs (a ++ b) = qvs a ++ qvs b := by simp [qvs]
theorem bvs_one (l : List UInt8) : ∀ u ∈ bvs l, u.oneCell' = true := by
  intro u hu; simp only [bvs, List.mem_map] at hu; obtain ⟨b, _, rfl⟩ := hu; rfl
theorem qvs_one (l : List UInt64) : ∀ u ∈ qvs l, u.oneCell' = true := by
  intro u hu; simp only [qvs, List.mem_map] at hu; obtain ⟨b, _, rfl⟩ := hu; rfl
theorem bv_ofNat (n : Nat) : bv (UInt8.ofNat n) = .int .u8 ((n % 256 : Nat) : Int) := by simp [bv]
theorem qv_ofNat (n : Nat) : qv (UInt64.ofNat n) = .int .u64 ((n % 18446744073709551616 : Nat) : Int) := by simp [qv]

/-- a text as a value -/
def str (l : List UInt8) : Value := .string ⟨l.toArray⟩

/-! ### append onto a row of the call's own -/
/-- what is known of a slice type: its elements' cells and bytes -/
structure SlT (P : Program) (t e : TypeId) (sz bytes : Nat) : Prop where
  ut : P.underlying t = some (.slice e)
  inf : ∃ i z, P.info? e = some i ∧ i.zero = some z ∧ i.size = sz ∧ i.bytes = bytes ∧ z.cells.size = sz
  pos : 0 < sz

theorem SlT.mk' {P : Program} {t e : TypeId} {sz bytes : Nat} {z : Value} (h : P.underlying t = some (.slice e)) (hi : (P.info? e).map (fun i => (i.zero, i.size, i.bytes)) = some (some z, sz, bytes)) (hz : z.cells.size = sz) (hs : 0 < sz) : SlT P t e sz bytes := by
  obtain ⟨i, h1, h2, h3, h4⟩ := info_parts hi
  exact ⟨h, ⟨i, z, h1, h2, h3, h4, hz⟩, hs⟩

section
variable {P : Program} (w : World)
theorem run_append_rd {t e : TypeId} {sz bytes : Nat} (hT : SlT P t e sz bytes) (ty : TypeId) {base n B m c : Nat} {v : Value} {xs news : List Value} {A : Option Addr}
    (hown : w.ownsRow base e sz v n xs) (hr : Rd w B sz A m news) (h1 : ∀ u ∈ news, u.oneCell' = true)
    (hb : n + m ≤ 4611686018427387903) (hbytes : (n + m) * bytes ≤ 140737488355328) (hbase : base ≤ w.heap.size) :
    ∃ v' w', (Builtin.append_ #[t, t] ty #[v, .slice A m c]).run P w = .ok v' w' ∧ w'.ownsRow base e sz v' (n + m) (xs ++ news) ∧ w.grownBy w' v.ownBlock ∧
      (v'.ownBlock = v.ownBlock ∨ v'.ownBlock = some w.heap.size) := by
  obtain ⟨ht, ⟨i, z, hi, hz, hsize, hby, hzs⟩, hsz⟩ := hT
  have h63 : n + m ≤ maxLen := by simp only [maxLen]; omega
  rcases A with _ | ad
  · have hm : m = 0 := by
      rcases Nat.eq_zero_or_pos m with h0 | h0
      · exact h0
      · obtain ⟨b, o, h, _⟩ := hr.2 h0
        cases h
    subst hm
    have hn : news = [] := List.eq_nil_of_length_eq_zero (by simpa using hr.1)
    subst hn
    refine ⟨v, w, ?_, by simpa using hown, ⟨rfl, rfl, rfl, Nat.le_refl _, fun _ _ _ => rfl⟩, .inl rfl⟩
    rcases hown.2 with ⟨rfl, rfl⟩ | ⟨g, cap, cur, rfl, _, _, hnc, _⟩
    · simp [Builtin.append_, run_underlying ht, sizeOf, typeInfo, hi, Builtin.lenOf, Builtin.firstCells]
    · simp [Builtin.append_, run_underlying ht, sizeOf, typeInfo, hi, Builtin.lenOf, Builtin.firstCells, hnc, storeCells]
  · have hcells : ∀ j u, news[j]? = some u → w.cell? (ad.add j) = some u := by
      intro j u hu
      rcases Nat.eq_zero_or_pos m with h0 | h0
      · subst h0
        have hn : news = [] := List.eq_nil_of_length_eq_zero (by simpa using hr.1)
        subst hn
        simp at hu
      · obtain ⟨b, o, h, _, hc⟩ := hr.2 h0
        injection h with h
        subst h
        have e : (⟨b, o, none⟩ : Addr).add j = ⟨b, o + j, none⟩ := by unfold Addr.add; split <;> simp_all
        rw [e]
        exact hc j u hu
    obtain ⟨v', w', hrun, h2, h3, _, h5⟩ := run_append_own_at (P := P) w base t ty e i z sz bytes ht hi hz hsize hby hzs hsz v n xs hown ad m c news hr.1 hcells h1 h63 hbytes hbase
    exact ⟨v', w', hrun, h2, h3, h5⟩

theorem wp_append_rd {o : Oper} {a : Act} {K : Act → World → Prop} {Q : Exit → Act → World → Prop} (s x : Operand) {t e : TypeId} {sz bytes : Nat} (hT : SlT P t e sz bytes)
    (ho : o.op = .call { callee := .builtin .append, args := #[s, x], argTypes := #[t, t] })
    {base n B m c : Nat} {v : Value} {xs news : List Value} {A : Option Addr} (hs : a.eval s = v) (hx : a.eval x = .slice A m c)
    (hown : w.ownsRow base e sz v n xs) (hr : Rd w B sz A m news) (h1 : ∀ u ∈ news, u.oneCell' = true)
    (hb : n + m ≤ 4611686018427387903) (hbytes : (n + m) * bytes ≤ 140737488355328) (hbase : base ≤ w.heap.size)
    (h : ∀ v' w', w'.ownsRow base e sz v' (n + m) (xs ++ news) → w.grownBy w' v.ownBlock → (v'.ownBlock = v.ownBlock ∨ v'.ownBlock = some w.heap.size) → K (a.put o.dst v') w') : o.wp P a w K Q := by
  obtain ⟨v', w', hrun, h2, h3, h4⟩ := run_append_rd (P := P) w hT o.type (c := c) hown hr h1 hb hbytes hbase
  unfold Oper.wp execOp
  simp only [ho, resolve, invoke, builtin, Sem.run_bind, Sem.run_pure, Result.andThen_ok, List.map_toArray, List.map_cons, List.map_nil, hs, hx, hrun]
  exact h v' w' h2 h3 h4

/-- 'append(s, x...)', s a row of the call's own. The order of what is asked: hT, the bounds of what is owned and what is read. -/
theorem wpList_append_rd {ops : Array Oper} {rest : List Oper} {o : Oper} {a : Act} {Q : Exit → Act → World → Prop} {s x : Operand} {t e : TypeId} {sz bytes : Nat} (hT : SlT P t e sz bytes)
    {base n B m c : Nat} {v : Value} {xs news : List Value} {A : Option Addr}
    (hown : w.ownsRow base e sz v n xs) (hr : Rd w B sz A m news) (h1 : ∀ u ∈ news, u.oneCell' = true)
    (hb : n + m ≤ 4611686018427387903) (hbytes : (n + m) * bytes ≤ 140737488355328) (hbase : base ≤ w.heap.size)
    (hgd : o.guard = none)
    (ho : o.op = .call { callee := .builtin .append, args := #[s, x], argTypes := #[t, t] })
    (hs : a.eval s = v) (hx : a.eval x = .slice A m c)
    (h : ∀ v' w', w'.ownsRow base e sz v' (n + m) (xs ++ news) → w.grownBy w' v.ownBlock → (v'.ownBlock = v.ownBlock ∨ v'.ownBlock = some w.heap.size) → wpList P ops Q rest (a.put o.dst v') w') : wpList P ops Q (o :: rest) a w :=
  wpList_plain hgd fun _ hK => wp_append_rd w s x hT ho hs hx hown hr h1 hb hbytes hbase fun v' w' h2 h3 h4 => hK _ _ (h v' w' h2 h3 h4)
end

/-- where s[k:] begins: kept shut in the walk -/
def cutA (A : Option Addr) (c k sz : Nat) : Option Addr := if c = k then A else A.map (·.add (k * sz))
theorem Rd.from_ownsRow {w : World} {base : Nat} {e : TypeId} {sz n : Nat} {v : Value} {xs : List Value} (h : w.ownsRow base e sz v n xs) : ∃ A c, v = .slice A n c ∧ Rd w w.heap.size sz A n xs := by
  rcases h.2 with ⟨rfl, rfl⟩ | ⟨g, cap, cur, rfl, _⟩
  · exact ⟨none, 0, rfl, Rd.own h⟩
  · exact ⟨_, _, rfl, Rd.own h⟩

theorem below_sets {B : Nat} {a : World} (b : Nat) (hb : B ≤ b) : ∀ (vs : List Value) (o : Nat) (w : World), Below B a w → Below B a (w.setCells b o vs)
  | [], _, _, h => h
  | v :: vs, o, w, h => below_sets b hb vs (o + 1) _ (Below.setCell (p := ⟨b, o, none⟩) h hb v)

/-- 'append(s[k:], x...)', s a row of the call's own: what it comes to reads so; of what was there only that row's spare places may have turned. -/
theorem wpList_append_cut {P : Program} (w : World) {ops : Array Oper} {rest : List Oper} {o : Oper} {a : Act} {Q : Exit → Act → World → Prop} {s x : Operand} {t e : TypeId} {sz bytes : Nat} (hT : SlT P t e sz bytes)
    {base n k B m c c2 : Nat} {xs news : List Value} {A A2 : Option Addr} (hown : w.ownsRow base e sz (.slice A n c) n xs) (hk : k ≤ n) (hr : Rd w B sz A2 m news) (hm : 0 < m) (h1 : ∀ u ∈ news, u.oneCell' = true)
    (hb : n + m ≤ 4611686018427387903) (hbytes : (n + m) * bytes ≤ 140737488355328) (hbase : base ≤ w.heap.size)
    (hgd : o.guard = none) (ho : o.op = .call { callee := .builtin .append, args := #[s, x], argTypes := #[t, t] })
    (hs : a.eval s = .slice (cutA A c k sz) (n - k) (c - k)) (hx : a.eval x = .slice A2 m c2)
    (h : ∀ A' c' w', Rd w' w'.heap.size sz A' (n - k + m) (xs.drop (k * sz) ++ news) → n - k + m ≤ c' → Below base w w' → wpList P ops Q rest (a.put o.dst (.slice A' (n - k + m) c')) w') : wpList P ops Q (o :: rest) a w := by
  obtain ⟨b2, o2, rfl, hb2, hc2⟩ := hr.2 hm
  have hbb : (n - k + m) * bytes ≤ 140737488355328 := Nat.le_trans (Nat.mul_le_mul_right _ (by omega)) hbytes
  have hnews : ∀ j u, news[j]? = some u → w.cell? ((⟨b2, o2, none⟩ : Addr).add j) = some u := fun j u hu => by
    have e : (⟨b2, o2, none⟩ : Addr).add j = ⟨b2, o2 + j, none⟩ := by unfold Addr.add; split <;> simp_all
    rw [e]; exact hc2 j u hu
  rcases hown.2 with ⟨hv, rfl⟩ | ⟨g, cap, cur, hv, hbg, hh, hnc, hcm, hcs, htake⟩
  · injection hv with hA _ hc
    subst hA; subst hc
    obtain rfl : k = 0 := by omega
    have hxs : xs = [] := List.eq_nil_of_length_eq_zero (by simpa using hown.1)
    subst hxs
    refine wpList_append_rd w hT (World.ownsRow_nil w w.heap.size e sz) hr h1 (by omega) (by simpa using hbb) (Nat.le_refl _) hgd ho (by rw [hs]; simp [cutA]) hx fun v' w' ho' hg' hat' => ?_
    obtain ⟨A', c', rfl, hrd⟩ := Rd.from_ownsRow ho'
    exact h A' c' w' (by simpa using hrd) (by have := own_cap ho'; omega) ((Below.refl base w).grown hg' hbase (by simp [Value.ownBlock]))
  · injection hv with hA _ hc
    subst hA; subst hc
    obtain ⟨ht, ⟨i, z, hi, hz, hsize, hby, hzs⟩, hsz⟩ := hT
    have hlen := hown.1
    have holds : ∀ off, off = (if c = k then 0 else k * sz) → ∀ j u, (xs.drop (k * sz))[j]? = some u → w.cell? ⟨g, off + j, none⟩ = some u := by
      intro off hoff j u hu
      rw [List.getElem?_drop] at hu
      have hjl := (List.getElem?_eq_some_iff.1 hu).1
      by_cases hck : c = k
      · have : k = n := by omega
        subst this; rw [hlen] at hjl; omega
      · rw [hoff, if_neg hck, hown.cellAt _ (by rw [← hlen]; exact hjl)]; exact hu
    have hcut : cutA (some ⟨g, 0, none⟩) c k sz = some ⟨g, if c = k then 0 else k * sz, none⟩ := by
      unfold cutA
      by_cases hck : c = k
      · simp [hck]
      · rw [if_neg hck, if_neg hck]
        simp only [Option.map_some, Addr.add]
        split
        · rename_i h0; simp [h0]
        · simp
    refine wpList_append_arg w hgd s x t ho e i z sz bytes ht hi hz hsize hby hzs hsz g (if c = k then 0 else k * sz) (n - k) (c - k) (xs.drop (k * sz)) (by rw [hs, hcut]) (by rw [List.length_drop, hlen, Nat.sub_mul]) (holds _ rfl)
      ⟨b2, o2, none⟩ m c2 news hx hr.1 hnews h1 ?_ (by simp only [maxLen]; omega) hbb ?_ ?_
    · intro hroom j hj
      have hck : ¬ c = k := by omega
      rw [if_neg hck]
      have e1 : k * sz + (n - k) * sz = n * sz := by rw [← Nat.add_mul]; congr 1; omega
      rw [e1]
      have hfit : n * sz + j < cur.size := by
        rw [hcs]
        have : (n + m) * sz ≤ c * sz := Nat.mul_le_mul_right _ (by omega)
        rw [Nat.add_mul] at this
        rw [hr.1] at hj; omega
      exact ⟨by rw [cell_of_row w g _ cur e (0, 0) hh]; simp [hfit], frozen_of_row w g _ cur e hh⟩
    · intro hroom
      have hck : ¬ c = k := by omega
      rw [if_neg hck]
      have e1 : k * sz + (n - k) * sz = n * sz := by rw [← Nat.add_mul]; congr 1; omega
      rw [e1]
      refine h _ _ _ ?_ (by omega) ?_
      · have hfit : n * sz + news.length ≤ cur.size := by
          rw [hcs, hr.1, ← Nat.add_mul]; exact Nat.mul_le_mul_right _ (by omega)
        refine ⟨by rw [List.length_append, List.length_drop, hlen, hr.1, Nat.add_mul, Nat.sub_mul], fun _ => ⟨g, k * sz, rfl, ?_, fun j u hu => ?_⟩⟩
        · exact Nat.lt_of_lt_of_le (Array.getElem?_eq_some_iff.1 hh).1 (below_sets g hbg news (n * sz) w (Below.refl base w)).size
        · rw [List.getElem?_append] at hu
          have hl : (xs.drop (k * sz)).length = n * sz - k * sz := by rw [List.length_drop, hlen]
          have hks : k * sz ≤ n * sz := Nat.mul_le_mul_right _ hk
          rw [hl] at hu
          by_cases hj : j < n * sz - k * sz
          · rw [if_pos hj, List.getElem?_drop] at hu
            rw [World.cell?_setCells_out g news (n * sz) w ⟨g, k * sz + j, none⟩ (fun _ _ => .inl (by simp only; omega))]
            rw [hown.cellAt _ (by omega)]; exact hu
          · rw [if_neg hj] at hu
            have e2 : k * sz + j = n * sz + (j - (n * sz - k * sz)) := by omega
            rw [e2]
            obtain ⟨hjn, hjv⟩ := List.getElem?_eq_some_iff.1 hu
            rw [World.cell?_setCells_in g news (n * sz) w (fun i hi => by rw [cell_of_row w g _ cur e (0, 0) hh]; simp; omega) _ hjn, ← hjv]
      · exact below_sets g hbg news _ _ (Below.refl base w)
    · intro hgrow v' w' ho' hg'
      obtain ⟨A', c', rfl, hrd⟩ := Rd.from_ownsRow ho'
      exact h A' c' w' hrd (own_cap ho') ((Below.refl base w).grown hg' hbase (by simp))

/-! ### Bytes of the call's own; texts -/
theorem bytesT : SlT Try.prog 26 5 1 1 := SlT.mk' Try.underlying26 (z := .int .u8 0) (by kernel_rfl) rfl (by decide)

/-- the slice is a row of the call's own (blocks from base on) that holds these bytes -/
def OwnB (w : World) (base : Nat) (A : Option Addr) (n c : Nat) (l : List UInt8) : Prop := w.ownsRow base 5 1 (.slice A n c) n (bvs l)
section
variable {w w' : World} {base n c : Nat} {A : Option Addr} {l : List UInt8} {q : List UInt64}
theorem OwnB.rd (h : OwnB w base A n c l) : Rd w w.heap.size 1 A n (bvs l) := Rd.own h
theorem OwnB.len (h : OwnB w base A n c l) : n = l.length := by have := h.1; simp only [bvs_length] at this; omega
theorem OwnB.up (h : OwnB w base A n c l) (hu : Up w w') : OwnB w' base A n c l := own_up h hu
theorem OwnB.cap (h : OwnB w base A n c l) : n ≤ c := own_cap h
theorem Rd.blen (h : Rd w base 1 A n (bvs l)) : n = l.length := by have := h.1; simp only [bvs_length] at this; omega
theorem Rd.qlen (h : Rd w base 1 A n (qvs q)) : n = q.length := by have := h.1; simp only [qvs_length] at this; omega
theorem Rd.byte (h : Rd w base 1 A n (bvs l)) {k : Nat} (hk : k < n) :
    ∃ b o, A = some ⟨b, o, none⟩ ∧ b < base ∧ w.cell? ⟨b, o + k, none⟩ = some (.int .u8 ((l.getD k 0).toNat : Int)) := by
  obtain ⟨b, o, e, hb, hc⟩ := h.2 (by omega)
  have hl : k < l.length := by have := h.blen; omega
  exact ⟨b, o, e, hb, hc k _ (by simp [bvs, bv, hl, List.getD])⟩
theorem Rd.num (h : Rd w base 1 A n (qvs q)) {k : Nat} (hk : k < n) :
    ∃ b o, A = some ⟨b, o, none⟩ ∧ b < base ∧ w.cell? ⟨b, o + k, none⟩ = some (.int .u64 ((q.getD k 0).toNat : Int)) := by
  obtain ⟨b, o, e, hb, hc⟩ := h.2 (by omega)
  have hl : k < q.length := by have := h.qlen; omega
  exact ⟨b, o, e, hb, hc k _ (by simp [qvs, qv, hl, List.getD])⟩
/-- numbers without sign as cells -/
def nvs (l : List Nat) : List Value := l.map fun (n : Nat) => Value.int .u64 (n : Int)
theorem nvs_length (l : List Nat) : (nvs l).length = l.length := by simp [nvs]
theorem Rd.nat {q : List Nat} (h : Rd w base 1 A n (nvs q)) {k : Nat} (hk : k < n) :
    ∃ b o, A = some ⟨b, o, none⟩ ∧ b < base ∧ w.cell? ⟨b, o + k, none⟩ = some (.int .u64 ((q.getD k 0 : Nat) : Int)) := by
  obtain ⟨b, o, e, hb, hc⟩ := h.2 (by omega)
  have hl : k < q.length := by have := h.1; rw [nvs_length] at this; omega
  exact ⟨b, o, e, hb, hc k _ (by simp [nvs, hl, List.getD])⟩
/-- s[k:] of bytes -/
theorem Rd.bfrom (h : Rd w base 1 A n (bvs l)) {k cap : Nat} (hk : k ≤ n) (hc : n ≤ cap) : Rd w base 1 (cutA A cap k 1) (n - k) (bvs (l.drop k)) := by
  have := h.from_ hk hc
  rw [Nat.mul_one] at this
  simpa [bvs, List.map_drop, cutA] using this
theorem Rd.bto (h : Rd w base 1 A n (bvs l)) {k : Nat} (hk : k ≤ n) : Rd w base 1 A k (bvs (l.take k)) := by
  have := h.to_ hk
  simpa [bvs, List.map_take] using this
end

theorem sizeOf_b (w : World) : (sizeOf 5).run Try.prog w = .ok 1 w := by
  obtain ⟨_, ⟨i, z, hi, _, hs, _⟩, _⟩ := bytesT
  simp [sizeOf, typeInfo, hi, hs]
theorem elem_b : Try.prog.elem 26 = 5 := by kernel_rfl
/-- s[l:] and s[l:h] of bytes, the beginning kept shut -/
theorem cut_from_b (w : World) (A : Option Addr) (n c : Nat) (kl : IntKind) (l : Int) (h0 : 0 ≤ l) (h1 : l ≤ n) :
    (Instr.slice 26 (.slice A n c) (some (.int kl l)) none none).run Try.prog w = .ok (.slice (cutA A c l.toNat 1) (n - l.toNat) (c - l.toNat)) w := by
  rw [run_slice_l w 26 A n c (by rw [elem_b]; exact Try.underlying26) kl l h0 h1, elem_b, sizeOf_b]
  simp [sliced, cutA]
theorem cut_lh_b (w : World) (A : Option Addr) (n c : Nat) (kl kh : IntKind) (l h : Int) (h0 : 0 ≤ l) (h1 : l ≤ h) (h2 : h ≤ c) :
    (Instr.slice 26 (.slice A n c) (some (.int kl l)) (some (.int kh h)) none).run Try.prog w = .ok (.slice (cutA A c l.toNat 1) (h.toNat - l.toNat) (c - l.toNat)) w := by
  rw [run_slice_lh w 26 A n c (by rw [elem_b]; exact Try.underlying26) kl kh l h h0 h1 h2, elem_b, sizeOf_b]
  simp [sliced, cutA]

/-- make([]byte, n) -/
def zb (n : Nat) : Array Value := (bvs (List.replicate n 0)).toArray
theorem zb_own (w : World) {base n : Nat} (hb : base ≤ w.heap.size) (hm : n ≤ 9223372036854775807) : OwnB (w.alloc (.cells (zb n) 5)) base (some ⟨w.heap.size, 0, none⟩) n n (List.replicate n 0) := by
  refine ⟨by simp [bvs], .inr ⟨w.heap.size, n, zb n, rfl, hb, heap_alloc_new w _, Nat.le_refl _, by simpa only [maxLen] using hm, by simp [zb, bvs], ?_⟩⟩
  simp [zb, bvs]
set_option maxRecDepth 100000 in
theorem make_b (w : World) (kl kc : IntKind) (l : Int) (h0 : 0 ≤ l) (h1 : l ≤ 140737488355328) :
    (Instr.makeSlice 26 (.int kl l) (.int kc l)).run Try.prog w = .ok (.slice (some ⟨w.heap.size, 0, none⟩) l.toNat l.toNat) (w.alloc (.cells (zb l.toNat) 5)) := by
  obtain ⟨i, hi, hz, hs, hby⟩ := info_parts (P := Try.prog) (e := 5) (z := .int .u8 0) (size := 1) (bytes := 1) (by kernel_rfl)
  rw [run_make w _ _ i _ bytesT.ut hi hz kl kc l l h0 (Int.le_refl _) (by rw [hby]; omega) (by omega)]
  congr 3
  apply Array.toList_inj.1
  rw [hs, Nat.mul_one]
  show (madeCells #[Value.int .u8 0] l.toNat).toList = _
  rw [toList_madeCells_one]
  simp [zb, bvs, bv]
/-- string(b) -/
theorem run_str {w : World} {B n : Nat} {A : Option Addr} {l : List UInt8} (c : Nat) (h : Rd w B 1 A n (bvs l)) : (convert 26 9 (.slice A n c)).run Try.prog w = .ok (.string ⟨l.toArray⟩) w := by
  have hn := h.blen
  subst hn
  by_cases h0 : 0 < l.length
  · obtain ⟨b, o, rfl, _, hc⟩ := h.2 h0
    refine run_convert_bytes_back w _ _ _ _ c l Try.underlying26 Try.underlying5 Try.underlying9 (fun j hj => ?_)
    have e : (⟨b, o, none⟩ : Addr).add j = ⟨b, o + j, none⟩ := by unfold Addr.add; split <;> simp_all
    rw [e]
    exact hc j _ (by simp [bvs, bv, hj])
  · have hl : l = [] := List.eq_nil_of_length_eq_zero (by omega)
    subst hl
    cases A with
    | none => exact run_convert_bytes_nil w _ _ Try.underlying26 Try.underlying5 0 c _ Try.underlying9
    | some a => exact run_convert_bytes_back w _ _ _ a c [] Try.underlying26 Try.underlying5 Try.underlying9 (fun j hj => by simp at hj)

/-- one new block, read from its head -/
theorem Rd.made (w : World) (cs : Array Value) (t : TypeId) {sz n : Nat} (hn : cs.size = n * sz) : Rd (w.alloc (.cells cs t)) (w.alloc (.cells cs t)).heap.size sz (some ⟨w.heap.size, 0, none⟩) n cs.toList := by
  refine ⟨by simpa using hn, fun _ => ⟨w.heap.size, 0, rfl, by simp, fun j v hj => ?_⟩⟩
  rw [World.cell?_alloc_at (w := w) cs t _ _ rfl]
  simpa using hj
/-- one value, boxed: 'append(s, u)' -/
theorem Rd.box (w : World) (u : Value) (t : TypeId) : Rd (w.alloc (.cells #[u] t)) (w.alloc (.cells #[u] t)).heap.size 1 (some ⟨w.heap.size, 0, none⟩) 1 [u] := Rd.made w #[u] t rfl
theorem Rd.boxb (w : World) {u : Value} (t : TypeId) {b : UInt8} (h : u = bv b) : Rd (w.alloc (.cells #[u] t)) (w.alloc (.cells #[u] t)).heap.size 1 (some ⟨w.heap.size, 0, none⟩) 1 (bvs [b]) := by subst h; exact Rd.box w _ t
theorem Rd.boxq (w : World) {u : Value} (t : TypeId) {b : UInt64} (h : u = qv b) : Rd (w.alloc (.cells #[u] t)) (w.alloc (.cells #[u] t)).heap.size 1 (some ⟨w.heap.size, 0, none⟩) 1 (qvs [b]) := by subst h; exact Rd.box w _ t
theorem Rd.boxb_at (w : World) {u : Value} (t : TypeId) {b : UInt8} {g : Nat} (hg : w.heap.size = g) (h : u = bv b) : Rd (w.alloc (.cells #[u] t)) (w.alloc (.cells #[u] t)).heap.size 1 (some ⟨g, 0, none⟩) 1 (bvs [b]) := by subst hg; exact Rd.boxb w t h
/-- a literal of bytes -/
theorem Rd.lit (w : World) (l : List UInt8) (cs : Array Value) (t : TypeId) (h : cs.toList = bvs l) : Rd (w.alloc (.cells cs t)) (w.alloc (.cells cs t)).heap.size 1 (some ⟨w.heap.size, 0, none⟩) l.length (bvs l) := by
  rw [← h]
  exact Rd.made w cs t (by have := congrArg List.length h; simpa [bvs] using this)
theorem Rd.lit_at (w : World) (l : List UInt8) (cs : Array Value) (t : TypeId) {g : Nat} (hg : w.heap.size = g) (h : cs.toList = bvs l) : Rd (w.alloc (.cells cs t)) (w.alloc (.cells cs t)).heap.size 1 (some ⟨g, 0, none⟩) l.length (bvs l) := by subst hg; exact Rd.lit w l cs t h

/-- a whole number's lowest byte -/
def byteOf (z : Int) : UInt8 := UInt8.ofNat (z % 256).toNat
theorem bv_byteOf (z : Int) : bv (byteOf z) = .int .u8 (z % 256) := by
  unfold byteOf; rw [bv_ofNat]; congr 1; omega
/-- a slice and what it holds -/
structure Pt where
  A : Option Addr
  n : Nat
  c : Nat
  l : List UInt8
def Pt.v (p : Pt) : Value := .slice p.A p.n p.c
end Go.Proofs.Ytnjmekjaingniaa

/-
  Opening arguments: slices of integers as lists of bytes and numbers; bounds of integers.
-/
namespace Go.Proofs.Ytnjmekjaingniaa
open Go.ChangeShapes Go.WideShapes Go.ChangeAt Go.RowKit
set_option linter.unusedVariables false

theorem prog_own : ownKnob Try.prog.godebug = none := by kernel_rfl
theorem laidOut : laidOutB Try.prog = true := by kernel_rfl

theorem bd_i64 {x : Int} (h : (Lit.int .i64 x).wf = true) : -9223372036854775808 ≤ x ∧ x ≤ 9223372036854775807 := by
  simpa [Lit.wf, IntKind.min, IntKind.max, IntKind.signed, IntKind.bits] using h
theorem bd_u64 {x : Int} (h : (Lit.int .u64 x).wf = true) : 0 ≤ x ∧ x ≤ 18446744073709551615 := by
  simpa [Lit.wf, IntKind.min, IntKind.max, IntKind.signed, IntKind.bits] using h
theorem bd_u8 {x : Int} (h : (Lit.int .u8 x).wf = true) : 0 ≤ x ∧ x ≤ 255 := by
  simpa [Lit.wf, IntKind.min, IntKind.max, IntKind.signed, IntKind.bits] using h

theorem rd_ints {W : World} {k : IntKind} {α : Type} (val : α → Value) (ofI : Int → α) (hof : ∀ n, (Lit.int k n).wf = true → val (ofI n) = .int k n) {a : Addr} {len cap : Nat} {zs : List Int}
    (hl : len ≤ cap) (hz : zs.length = cap) (hcell : ∀ i, i < zs.length → W.cell? (a.add i) = some (.int k (zs.getD i 0))) (hwz : ∀ n ∈ zs, (Lit.int k n).wf = true) :
    Rd W W.heap.size 1 (some a) len (((zs.take len).map ofI).map val) := by
  have hm : ((zs.take len).map ofI).map val = (zs.take len).map (Value.int k) := by
    rw [List.map_map]
    exact List.map_congr_left fun n hn => hof n (hwz n (List.mem_of_mem_take hn))
  rw [hm]
  refine ⟨by simp; omega, fun hn => ?_⟩
  obtain ⟨b, o, spot⟩ := a
  have hspot : spot = none := by simpa [Addr.add] using World.cell?_spot (hcell 0 (by omega))
  subst hspot
  refine ⟨b, o, rfl, ?_, fun j u hu => ?_⟩
  · have h0 := hcell 0 (by omega)
    have := World.block_lt_of_cell? W _ h0
    simpa [Addr.add] using this
  · have hj : j < len ∧ j < zs.length := by
      have := (List.getElem?_eq_some_iff.1 hu).1
      simp at this; omega
    have e : (⟨b, o, none⟩ : Addr).add j = ⟨b, o + j, none⟩ := by unfold Addr.add; split <;> simp_all
    rw [← e, hcell j hj.2]
    simp [hj.1, hj.2] at hu
    rw [← hu]
    simp [List.getD, hj.2]

/-- a slice of bytes that came in -/
def IsB (w : World) (A : Option Addr) (n c : Nat) (l : List UInt8) : Prop := Rd w w.heap.size 1 A n (bvs l) ∧ n ≤ c ∧ c ≤ 9223372036854775807

section
variable {H : Type} {enc : TypeId × Value → H} {W : World} {sp : Nat → Bool} {a : Option Addr} {len cap : Nat} {d : DataW H} {p : List MemPlace}
theorem is_b (h : DataW.Trod enc Try.prog W 0 (fun _ => true) true 26 (.slice a len cap) d p) : ∃ l, IsB W a len cap l := by
  obtain ⟨fuel, hf⟩ := h
  rcases open_ints Try.underlying26 Try.underlying5 (by kernel_rfl) hf with ⟨hcs, _⟩ | ⟨x, l, c, zs, hcs, _, hl, hm, hz, _, hcell, hwz⟩
  · simp [Value.cells] at hcs
    obtain ⟨rfl, rfl, rfl⟩ := hcs
    exact ⟨[], Rd.empty, by omega, by omega⟩
  · simp [Value.cells] at hcs
    obtain ⟨rfl, rfl, rfl⟩ := hcs
    refine ⟨_, rd_ints bv (fun n => UInt8.ofNat n.toNat) (fun n hn => ?_) hl (by simpa using hz) hcell hwz, hl, by simpa only [maxLen] using hm⟩
    have := bd_u8 hn
    rw [bv_ofNat]; congr 1; omega
end
end Go.Proofs.Ytnjmekjaingniaa

/-
  Items as plain data, and as cells; an item or a slice of items that came in.
-/
namespace Go.Proofs.Ytnjmekjaingniaa
open Go.ChangeShapes Go.WideShapes Go.ChangeAt Go.RowKit Go.Deep
set_option linter.unusedVariables false

/-- a sample, or a delete of a series -/
structure It where
  s : Int64
  k : Int64
  t : UInt64
  v : UInt64
  x : Int64

def itc (i : It) : List Value := [.int .i64 i.s.toInt, .int .i64 i.k.toInt, .int .u64 (i.t.toNat : Int), .int .u64 (i.v.toNat : Int), .int .i64 i.x.toInt]
def itcs (l : List It) : List Value := l.flatMap itc
theorem itcs_length (l : List It) : (itcs l).length = l.length * 5 := by
  induction l with
  | nil => rfl
  | cons i l ih => simp only [itcs, List.flatMap_cons, List.length_append, List.length_cons] at *; rw [ih]; simp [itc]; omega
theorem itcs_append (a b : List It) : itcs (a ++ b) = itcs a ++ itcs b := by simp [itcs]
theorem itcs_one (l : List It) : ∀ u ∈ itcs l, u.oneCell' = true := by
  intro u hu
  simp only [itcs, List.mem_flatMap] at hu
  obtain ⟨i, _, h⟩ := hu
  simp only [itc, List.mem_cons, List.not_mem_nil, or_false] at h
  rcases h with rfl | rfl | rfl | rfl | rfl <;> rfl
/-- the cells of the item at place k -/
theorem itcs_at (l : List It) {k : Nat} (hk : k < l.length) {j : Nat} (hj : j < 5) : (itcs l)[k * 5 + j]? = (itc l[k])[j]? := by
  induction l generalizing k with
  | nil => simp at hk
  | cons i l ih =>
    cases k with
    | zero =>
      simp only [itcs, List.flatMap_cons, Nat.zero_mul, Nat.zero_add, List.getElem_cons_zero]
      rw [List.getElem?_append_left (by simpa [itc] using hj)]
    | succ k =>
      have hk' : k < l.length := by simpa using hk
      have := ih hk'
      simp only [itcs, List.flatMap_cons, List.getElem_cons_succ] at this ⊢
      rw [List.getElem?_append_right (by simp [itc]; omega), ← this]
      congr 1; simp [itc]; omega

/-- an item's five cells, one by one -/
theorem five_cells {w : World} {B g : Nat} {i : It} (h : Rd w B 5 (some ⟨g, 0, none⟩) 1 (itc i)) :
    w.cell? ⟨g, 0, none⟩ = some (.int .i64 i.s.toInt) ∧ w.cell? ⟨g, 1, none⟩ = some (.int .i64 i.k.toInt) ∧ w.cell? ⟨g, 2, none⟩ = some (.int .u64 (i.t.toNat : Int)) ∧ w.cell? ⟨g, 3, none⟩ = some (.int .u64 (i.v.toNat : Int)) ∧ w.cell? ⟨g, 4, none⟩ = some (.int .i64 i.x.toInt) := by
  obtain ⟨b, o, e, _, hc⟩ := h.2 (by omega)
  injection e with e
  injection e with e1 e2
  subst e1; subst e2
  exact ⟨by simpa using hc 0 _ rfl, by simpa using hc 1 _ rfl, by simpa using hc 2 _ rfl, by simpa using hc 3 _ rfl, by simpa using hc 4 _ rfl⟩
theorem Rd.ilen {w : World} {B n : Nat} {A : Option Addr} {l : List It} (h : Rd w B 5 A n (itcs l)) : n = l.length := by have := h.1; rw [itcs_length] at this; omega
/-- the cells of a slice's item k -/
theorem Rd.item_at {w : World} {B n : Nat} {A : Option Addr} {l : List It} (h : Rd w B 5 A n (itcs l)) {k : Nat} (hk : k < n) :
    ∃ b o i, A = some ⟨b, o, none⟩ ∧ b < B ∧ l[k]? = some i ∧ w.cell? ⟨b, o + k * 5, none⟩ = some (.int .i64 i.s.toInt) ∧ w.cell? ⟨b, o + k * 5 + 1, none⟩ = some (.int .i64 i.k.toInt) ∧ w.cell? ⟨b, o + k * 5 + 2, none⟩ = some (.int .u64 (i.t.toNat : Int)) ∧ w.cell? ⟨b, o + k * 5 + 3, none⟩ = some (.int .u64 (i.v.toNat : Int)) ∧ w.cell? ⟨b, o + k * 5 + 4, none⟩ = some (.int .i64 i.x.toInt) := by
  have hl := h.ilen
  obtain ⟨b, o, e, hb, hc⟩ := h.2 (by omega)
  have hkl : k < l.length := by omega
  have got : ∀ j u, j < 5 → (itc l[k])[j]? = some u → w.cell? ⟨b, o + k * 5 + j, none⟩ = some u := fun j u hj hu => by
    rw [Nat.add_assoc]
    exact hc _ _ ((itcs_at l hkl hj).trans hu)
  exact ⟨b, o, l[k], e, hb, List.getElem?_eq_getElem hkl, got 0 _ (by omega) rfl, got 1 _ (by omega) rfl, got 2 _ (by omega) rfl, got 3 _ (by omega) rfl, got 4 _ (by omega) rfl⟩
theorem Rd.item (w : World) (i : It) (t : TypeId) : Rd (w.alloc (.cells #[.int .i64 i.s.toInt, .int .i64 i.k.toInt, .int .u64 (i.t.toNat : Int), .int .u64 (i.v.toNat : Int), .int .i64 i.x.toInt] t)) (w.heap.size + 1) 5 (some ⟨w.heap.size, 0, none⟩) 1 (itc i) := by
  have := Rd.made (sz := 5) (n := 1) w #[.int .i64 i.s.toInt, .int .i64 i.k.toInt, .int .u64 (i.t.toNat : Int), .int .u64 (i.v.toNat : Int), .int .i64 i.x.toInt] t rfl
  rw [World.size_alloc] at this
  exact this
/-- a boxed item's cells, in whatever grows out of that world -/
theorem item_held (w : World) (i : It) {t : TypeId} {W : World} (hW : w.alloc (.cells #[.int .i64 i.s.toInt, .int .i64 i.k.toInt, .int .u64 (i.t.toNat : Int), .int .u64 (i.v.toNat : Int), .int .i64 i.x.toInt] t) = W) :
    ∀ w1, Up W w1 → w1.cell? ⟨w.heap.size, 0, none⟩ = some (.int .i64 i.s.toInt) ∧ w1.cell? ⟨w.heap.size, 1, none⟩ = some (.int .i64 i.k.toInt) ∧ w1.cell? ⟨w.heap.size, 2, none⟩ = some (.int .u64 (i.t.toNat : Int)) ∧ w1.cell? ⟨w.heap.size, 3, none⟩ = some (.int .u64 (i.v.toNat : Int)) ∧ w1.cell? ⟨w.heap.size, 4, none⟩ = some (.int .i64 i.x.toInt) := fun w1 hu1 => by
  have h5 := Rd.item w i t
  rw [hW] at h5
  exact five_cells ((h5.mono (B' := W.heap.size) (by rw [← hW]; simp)).stay (Nat.le_refl _) hu1)
/-- a literal of items -/
theorem Rd.ilit_at (w : World) (l : List It) (cs : Array Value) (t : TypeId) {g : Nat} (hg : w.heap.size = g) (h : cs.toList = itcs l) : Rd (w.alloc (.cells cs t)) (w.alloc (.cells cs t)).heap.size 5 (some ⟨g, 0, none⟩) l.length (itcs l) := by
  subst hg
  rw [← h]
  exact Rd.made w cs t (by have := congrArg List.length h; rw [itcs_length] at this; simpa using this)
theorem i64_of {n : Int} (h : (Lit.int .i64 n).wf = true) : n = (Int64.ofInt n).toInt := by
  have := bd_i64 h
  rw [Int64.toInt_ofInt_of_le (by simpa using this.1) (by have := this.2; simp; omega)]
theorem u64_of {n : Int} (h : (Lit.int .u64 n).wf = true) : n = ((UInt64.ofNat n.toNat).toNat : Int) := by
  have := bd_u64 h
  simp; omega

section
variable {H : Type} {enc : TypeId × Value → H} {P : Program} {w : World} {base : Nat} {spare : Nat → Bool} {held : Bool}
theorem item_cells {t : TypeId} {f0 f1 f2 f3 f4 : Field} {fuel : Nat} {cs : List Value} {y : DataW H × List MemPlace} (hs : P.underlying t = some (.struct #[f0, f1, f2, f3, f4])) (hone : oneCellFields P #[f0, f1, f2, f3, f4] = true) (hC : P.cellsOf t = 5)
    (u0 : P.underlying f0.type = some (.int .i64)) (u1 : P.underlying f1.type = some (.int .i64)) (u2 : P.underlying f2.type = some (.int .u64)) (u3 : P.underlying f3.type = some (.int .u64)) (u4 : P.underlying f4.type = some (.int .i64))
    (h : DataW.trod enc P w base spare held fuel t cs = some y) : ∃ i : It, cs = itc i := by
  obtain ⟨ys, n, _, _, hlen, hyl, hf⟩ := DataW.trod_struct hs h
  rw [hC] at hlen
  match cs, hlen with
  | [c0, c1, c2, c3, c4], _ =>
    have got : ∀ (j : Nat) (f : Field) (hj : #[f0, f1, f2, f3, f4][j]? = some f), ∃ y, DataW.trod enc P w base spare held n f.type (([c0, c1, c2, c3, c4].drop j).take 1) = some y := by
      intro j f hj
      obtain ⟨ho, hk⟩ := hone_of hone j f hj
      have h1 := hf j f hj
      rw [ho, hk] at h1
      have hjl : j < ys.length := by
        have := (Array.getElem?_eq_some_iff.1 hj).1
        rw [hyl]; exact this
      exact ⟨ys[j], h1.trans (List.getElem?_eq_getElem hjl)⟩
    obtain ⟨y0, g0⟩ := got 0 f0 rfl
    obtain ⟨y1, g1⟩ := got 1 f1 rfl
    obtain ⟨y2, g2⟩ := got 2 f2 rfl
    obtain ⟨y3, g3⟩ := got 3 f3 rfl
    obtain ⟨y4, g4⟩ := got 4 f4 rfl
    obtain ⟨n0, e0, _, w0⟩ := DataW.trod_int u0 g0
    obtain ⟨n1, e1, _, w1⟩ := DataW.trod_int u1 g1
    obtain ⟨n2, e2, _, w2⟩ := DataW.trod_int u2 g2
    obtain ⟨n3, e3, _, w3⟩ := DataW.trod_int u3 g3
    obtain ⟨n4, e4, _, w4⟩ := DataW.trod_int u4 g4
    simp only [List.drop_zero, List.drop_succ_cons, List.take_succ_cons, List.take_zero, List.cons.injEq, and_true] at e0 e1 e2 e3 e4
    subst e0; subst e1; subst e2; subst e3; subst e4
    refine ⟨⟨Int64.ofInt n0, Int64.ofInt n1, UInt64.ofNat n2.toNat, UInt64.ofNat n3.toNat, Int64.ofInt n4⟩, ?_⟩
    simp only [itc]
    rw [← i64_of w0, ← i64_of w1, ← u64_of w2, ← u64_of w3, ← i64_of w4]

theorem item_cells' {fuel : Nat} {cs : List Value} {y : DataW H × List MemPlace} (h : DataW.trod enc Try.prog w base spare held fuel 25 cs = some y) : ∃ i : It, cs = itc i :=
  item_cells Try.underlying25 (by kernel_rfl) (by kernel_rfl) Try.underlying3 Try.underlying3 Try.underlying23 Try.underlying23 Try.underlying2 h
set_option maxRecDepth 100000 in
/-- an item by value -/
theorem is_item {b0 : Nat} {v : Value} {d : DataW H} {p : List MemPlace} (hv : Value.okWide Try.prog w .any b0 25 v) (h : DataW.Trod enc Try.prog w base spare held 25 v d p) :
    ∃ i : It, v = .agg (itc i).toArray := by
  obtain ⟨cs, rfl, hsz⟩ := okWide_struct Try.underlying25 hv
  obtain ⟨fuel, hf⟩ := h
  obtain ⟨i, hi⟩ := item_cells' hf
  refine ⟨i, ?_⟩
  congr 1
  apply Array.toList_inj.1
  simpa [Value.cells] using hi
end
end Go.Proofs.Ytnjmekjaingniaa

/-
  The walks of item's tests: Ok, Less, Same, Wins, Hides; and of the document's.
-/
namespace Go.Proofs.Ytnjmekjaingniaa
open Go.RowKit
set_option linter.unusedVariables false

/-- an item's numbers: may it be? -/
def okZ (s k : Int) (t v : Nat) (x : Int) : Bool := decide (0 ≤ s ∧ s ≤ 255 ∧ 1 ≤ v ∧ v ≤ 281474976710656 ∧ (k = 1 ∧ t = 0 ∧ x = 0 ∨ k = 2 ∧ t ≤ 1099511627776))
def lessZ (s k : Int) (t : Nat) (s' k' : Int) (t' : Nat) : Bool := decide (s < s' ∨ s = s' ∧ (k < k' ∨ k = k' ∧ t < t'))
def winsZ (v : Nat) (x : Int) (v' : Nat) (x' : Int) : Bool := decide (v' < v ∨ v = v' ∧ x' < x)
def hidesZ (s k : Int) (v : Nat) (s' k' : Int) (v' : Nat) : Bool := decide (k = 1 ∧ k' = 2 ∧ s = s' ∧ v' ≤ v)
def okB (i : It) : Bool := okZ i.s.toInt i.k.toInt i.t.toNat i.v.toNat i.x.toInt
def lessB (a b : It) : Bool := lessZ a.s.toInt a.k.toInt a.t.toNat b.s.toInt b.k.toInt b.t.toNat
def winsB (a b : It) : Bool := winsZ a.v.toNat a.x.toInt b.v.toNat b.x.toInt
def hidesB (a b : It) : Bool := hidesZ a.s.toInt a.k.toInt a.v.toNat b.s.toInt b.k.toInt b.v.toNat
def sameB (a b : It) : Bool := !lessB a b && !lessB b a

theorem ret_bool {a b : Bool} (h : a = b) : Ending.returned (.bool a) = .returned (.bool b) := by rw [h]

set_option maxRecDepth 100000 in
set_option maxHeartbeats 1600000 in
theorem ok_core (s k : Int) (t v : Nat) (x : Int) (w : World) :
    Calls Try.prog 80 #[.agg #[.int .i64 s, .int .i64 k, .int .u64 (t : Int), .int .u64 (v : Int), .int .i64 x]] w fun e w' => e = .returned (.bool (okZ s k t v x)) ∧ Up w w' := by
  have hs : okZ s k t v x = decide (0 ≤ s ∧ s ≤ 255 ∧ 1 ≤ v ∧ v ≤ 281474976710656 ∧ (k = 1 ∧ t = 0 ∧ x = 0 ∨ k = 2 ∧ t ≤ 1099511627776)) := rfl
  have HS := Lib.hid hs
  clear hs
  go_enter Try.func80, Try.ntmps80
  go_wp2
  all_goals
    go_ret
    refine ⟨ret_bool ?_, (Up.refl w).alloc _⟩
    rw [HS.out, Bool.eq_iff_iff]
    clear HS
    first | omega | (simp at *; done) | (simp at *; omega)




set_option maxRecDepth 100000 in
set_option maxHeartbeats 1600000 in
theorem rok_core (s k : Int) (t v : Nat) (x : Int) (w : World) :
    Calls Try.prog 60 #[.agg #[.int .i64 s, .int .i64 k, .int .u64 (t : Int), .int .u64 (v : Int), .int .i64 x]] w fun e w' => e = .returned (.bool (okZ s k t v x)) ∧ Up w w' := by
  have hs : okZ s k t v x = decide (0 ≤ s ∧ s ≤ 255 ∧ 1 ≤ v ∧ v ≤ 281474976710656 ∧ (k = 1 ∧ t = 0 ∧ x = 0 ∨ k = 2 ∧ t ≤ 1099511627776)) := rfl
  have HS := Lib.hid hs
  clear hs
  go_enter Try.func60, Try.ntmps60
  go_wp2
  all_goals
    go_ret
    refine ⟨ret_bool ?_, (Up.refl w).alloc _⟩
    rw [HS.out, Bool.eq_iff_iff]
    clear HS
    first | omega | (simp at *; done) | (simp at *; omega)




theorem ok_any (i : It) (w : World) : Calls Try.prog 80 #[.agg #[.int .i64 i.s.toInt, .int .i64 i.k.toInt, .int .u64 (i.t.toNat : Int), .int .u64 (i.v.toNat : Int), .int .i64 i.x.toInt]] w fun e w' => e = .returned (.bool (okB i)) ∧ Up w w' := ok_core _ _ _ _ _ w
theorem rok_any (i : It) (w : World) : Calls Try.prog 60 #[.agg #[.int .i64 i.s.toInt, .int .i64 i.k.toInt, .int .u64 (i.t.toNat : Int), .int .u64 (i.v.toNat : Int), .int .i64 i.x.toInt]] w fun e w' => e = .returned (.bool (okB i)) ∧ Up w w' := rok_core _ _ _ _ _ w
end Go.Proofs.Ytnjmekjaingniaa

/-
  Plain: numbers as bytes: groups of seven bits (numB), eight bytes (eightB).
-/
namespace Go.Proofs.Ytnjmekjaingniaa
open Go.RowKit
set_option linter.unusedVariables false

/-- a number in groups of seven bits, the lowest first -/
def numB (n : Nat) : List UInt8 := if n < 128 then [UInt8.ofNat n] else UInt8.ofNat (n % 128 + 128) :: numB (n / 128)
termination_by n
decreasing_by omega

theorem numB_lo {n : Nat} (h : n < 128) : numB n = [UInt8.ofNat n] := by rw [numB, if_pos h]
theorem numB_hi {n : Nat} (h : ¬ n < 128) : numB n = UInt8.ofNat (n % 128 + 128) :: numB (n / 128) := by rw [numB, if_neg h]
theorem numB_pos (n : Nat) : 1 ≤ (numB n).length := by
  rw [numB]; split <;> simp
theorem numB_len (k : Nat) : ∀ n, n < 128 ^ (k + 1) → (numB n).length ≤ k + 1 := by
  induction k with
  | zero => intro n h; rw [numB_lo (by simpa using h)]; simp
  | succ k ih =>
    intro n h
    by_cases hn : n < 128
    · rw [numB_lo hn]; simp
    · rw [numB_hi hn]
      have := ih (n / 128) (by rw [Nat.div_lt_iff_lt_mul (by decide)]; rw [Nat.pow_succ] at h; exact h)
      simp only [List.length_cons]; omega
theorem numB_ten {n : Nat} (h : n < 18446744073709551616) : (numB n).length ≤ 10 := numB_len 9 n (Nat.lt_of_lt_of_le h (by decide))

/-- what Take finds in what is left, i bytes behind the beginning, acc gathered: the number, its bytes, the error -/
def takeGo : List UInt8 → Nat → Nat → Nat × Nat × Nat
  | [], _, _ => (0, 0, 4)
  | c :: r, i, acc =>
    if (i = 9 ∧ 1 < c.toNat) ∨ (0 < i ∧ c.toNat = 0) then (0, 0, 3)
    else if c.toNat < 128 then (acc + c.toNat % 128 * 128 ^ i, i + 1, 0)
    else takeGo r (i + 1) (acc + c.toNat % 128 * 128 ^ i)
def takeL (l : List UInt8) : Nat × Nat × Nat := takeGo l 0 0

theorem pow_le9 {i : Nat} (hi : i ≤ 9) : 128 ^ i ≤ 9223372036854775808 := by
  have : (128 : Nat) ^ i ≤ 128 ^ 9 := Nat.pow_le_pow_right (by decide) hi
  simpa using this
theorem take_step {acc i ch : Nat} (ha : acc < 128 ^ i) : acc + ch % 128 * 128 ^ i < 128 ^ (i + 1) := by
  have h1 : ch % 128 * 128 ^ i ≤ 127 * 128 ^ i := Nat.mul_le_mul_right _ (by omega)
  rw [Nat.pow_succ]; omega
theorem take_fit {acc i ch : Nat} (hi : i ≤ 9) (ha : acc < 128 ^ i) (h9 : i = 9 → ch ≤ 1) : acc + ch % 128 * 128 ^ i < 18446744073709551616 := by
  by_cases h : i = 9
  · subst h
    have h1 : ch % 128 * 128 ^ 9 ≤ 1 * 128 ^ 9 := Nat.mul_le_mul_right _ (by have := h9 rfl; omega)
    have e : (128 : Nat) ^ 9 = 9223372036854775808 := by decide
    rw [e] at *; omega
  · have := take_step (ch := ch) ha
    have h2 := pow_le9 (i := i + 1) (by omega)
    omega
/-- the number that a byte's turn of Take's loop comes to, as the walk spells it -/
theorem take_val {acc i : Nat} {ch : UInt8} (hi : i ≤ 9) (ha : acc < 128 ^ i) (h9 : i = 9 → ch.toNat ≤ 1) :
    bits .or .u64 (acc : Int) (IntKind.u64.wrap (IntKind.u64.wrap (bits .and .u8 (ch.toNat : Int) 127) * 2 ^ (7 * i))) = ((acc + ch.toNat % 128 * 128 ^ i : Nat) : Int) := by
  have hf := take_fit hi ha h9
  have hc : ch.toNat < 256 := ch.toNat_lt
  have e1 : bits .and .u8 (ch.toNat : Int) 127 = ((ch.toNat % 128 : Nat) : Int) := by
    rw [show (127 : Int) = ((127 : Nat) : Int) from rfl, u8_and_nat _ _ hc (by decide), nat_mask7]
  have e2 : (2 : Int) ^ (7 * i) = ((128 ^ i : Nat) : Int) := by rw [Int.natCast_pow, show ((128 : Nat) : Int) = 2 ^ 7 from rfl, ← Int.pow_mul]
  have e3 : IntKind.u64.wrap ((ch.toNat % 128 : Nat) : Int) = ((ch.toNat % 128 : Nat) : Int) := by
    rw [IntKind.wrap_u64]; omega
  rw [e1, e3, e2, ← Int.natCast_mul]
  have e4 : IntKind.u64.wrap ((ch.toNat % 128 * 128 ^ i : Nat) : Int) = ((ch.toNat % 128 * 128 ^ i : Nat) : Int) := by
    rw [IntKind.wrap_u64]; omega
  rw [e4, u64_or_nat _ _ (by omega) (by omega), Nat.or_comm, nat_join (7 * i), Nat.add_comm]
  · rw [Nat.pow_mul]; exact Nat.mul_mod_left _ _
  · rw [Nat.pow_mul]; exact ha

theorem take_val9 {acc : Nat} {ch : UInt8} (ha : acc < 128 ^ 9) (h9 : ch.toNat ≤ 1) :
    bits .or .u64 (acc : Int) (IntKind.u64.wrap (IntKind.u64.wrap (bits .and .u8 (ch.toNat : Int) 127) * 9223372036854775808)) = ((acc + ch.toNat % 128 * 128 ^ 9 : Nat) : Int) := by
  rw [← take_val (i := 9) (by omega) ha (fun _ => h9), show (2 : Int) ^ (7 * 9) = 9223372036854775808 by decide]
theorem rtake_val {acc i : Nat} {ch : UInt8} (hi : i ≤ 9) (ha : acc < 128 ^ i) (h9 : i = 9 → ch.toNat ≤ 1) :
    bits .or .u64 (acc : Int) (IntKind.u64.wrap (bits .and .u64 (ch.toNat : Int) 127 * 2 ^ (7 * i))) = ((acc + ch.toNat % 128 * 128 ^ i : Nat) : Int) := by
  rw [← take_val hi ha h9]
  have hc : ch.toNat < 256 := ch.toNat_lt
  have e1 : bits .and .u8 (ch.toNat : Int) 127 = ((ch.toNat % 128 : Nat) : Int) := by
    rw [show (127 : Int) = ((127 : Nat) : Int) from rfl, u8_and_nat _ _ hc (by decide), nat_mask7]
  have e2 : bits .and .u64 (ch.toNat : Int) 127 = ((ch.toNat % 128 : Nat) : Int) := by
    rw [show (127 : Int) = ((127 : Nat) : Int) from rfl, u64_and_nat _ _ (by omega) (by decide), nat_mask7]
  have e3 : IntKind.u64.wrap ((ch.toNat % 128 : Nat) : Int) = ((ch.toNat % 128 : Nat) : Int) := by
    rw [IntKind.wrap_u64]; omega
  rw [e1, e2, e3]
theorem rtake_val9 {acc : Nat} {ch : UInt8} (ha : acc < 128 ^ 9) (h9 : ch.toNat ≤ 1) :
    bits .or .u64 (acc : Int) (IntKind.u64.wrap (bits .and .u64 (ch.toNat : Int) 127 * 9223372036854775808)) = ((acc + ch.toNat % 128 * 128 ^ 9 : Nat) : Int) := by
  rw [← rtake_val (i := 9) (by omega) ha (fun _ => h9), show (2 : Int) ^ (7 * 9) = 9223372036854775808 by decide]
theorem byte0 (ch : UInt8) : (((ch.toNat : Int) == 0) = true → ch.toNat = 0) ∧ (((ch.toNat : Int) == 0) = false → 0 < ch.toNat) := by
  constructor
  · intro h; have := beq_iff_eq.1 h; omega
  · intro h; have := beq_eq_false_iff_ne.1 h; omega

theorem takeGo_form {c : UInt8} {r : List UInt8} {i acc : Nat} (h : (i = 9 ∧ 1 < c.toNat) ∨ (0 < i ∧ c.toNat = 0)) : takeGo (c :: r) i acc = (0, 0, 3) := by rw [takeGo, if_pos h]
theorem takeGo_end {c : UInt8} {r : List UInt8} {i acc : Nat} (h : ¬ ((i = 9 ∧ 1 < c.toNat) ∨ (0 < i ∧ c.toNat = 0))) (h2 : c.toNat < 128) : takeGo (c :: r) i acc = (acc + c.toNat % 128 * 128 ^ i, i + 1, 0) := by rw [takeGo, if_neg h, if_pos h2]
theorem takeGo_more {c : UInt8} {r : List UInt8} {i acc : Nat} (h : ¬ ((i = 9 ∧ 1 < c.toNat) ∨ (0 < i ∧ c.toNat = 0))) (h2 : ¬ c.toNat < 128) : takeGo (c :: r) i acc = takeGo r (i + 1) (acc + c.toNat % 128 * 128 ^ i) := by rw [takeGo, if_neg h, if_neg h2]

/-! ### signs -/
def signN (n : Int) : Nat := if n < 0 then (-(n + 1)).toNat * 2 + 1 else n.toNat * 2
def unsignZ (n : Nat) : Int := if n % 2 = 0 then ((n / 2 : Nat) : Int) else -((n / 2 : Nat) : Int) - 1
theorem xor_ones (a : Nat) (ha : a < 18446744073709551616) : bits .xor .u64 (a : Int) 18446744073709551615 = ((18446744073709551615 - a : Nat) : Int) := by
  rw [show (18446744073709551615 : Int) = ((18446744073709551615 : Nat) : Int) from rfl, u64_xor_nat _ _ ha (by decide)]
  congr 1
  have h := congrArg BitVec.toNat (BitVec.xor_allOnes (x := BitVec.ofNat 64 a))
  rw [BitVec.toNat_xor, BitVec.toNat_allOnes, BitVec.toNat_not, BitVec.toNat_ofNat, Nat.mod_eq_of_lt (by simpa using ha)] at h
  simpa using h
theorem sign_val (n : Int) (h1 : -9223372036854775808 ≤ n) (h2 : n ≤ 9223372036854775807) :
    bits .xor .u64 (IntKind.u64.wrap (IntKind.u64.wrap n * 2)) (IntKind.u64.wrap (n / 9223372036854775808)) = (signN n : Int) := by
  unfold signN
  by_cases hn : n < 0
  · rw [if_pos hn]
    have e1 : IntKind.u64.wrap (n / 9223372036854775808) = 18446744073709551615 := by rw [IntKind.wrap_u64]; omega
    obtain ⟨a, ha⟩ : ∃ a : Nat, IntKind.u64.wrap (IntKind.u64.wrap n * 2) = (a : Int) := ⟨(IntKind.u64.wrap (IntKind.u64.wrap n * 2)).toNat, by rw [IntKind.wrap_u64]; omega⟩
    have hb : a < 18446744073709551616 := by rw [IntKind.wrap_u64] at ha; omega
    rw [e1, ha, xor_ones a hb]
    rw [IntKind.wrap_u64, IntKind.wrap_u64] at ha
    omega
  · rw [if_neg hn]
    have e1 : IntKind.u64.wrap (n / 9223372036854775808) = ((0 : Nat) : Int) := by rw [IntKind.wrap_u64]; omega
    have e2 : IntKind.u64.wrap (IntKind.u64.wrap n * 2) = ((n.toNat * 2 : Nat) : Int) := by rw [IntKind.wrap_u64, IntKind.wrap_u64]; omega
    rw [e1, e2, u64_xor_nat _ _ (by omega) (by omega), Nat.xor_zero]
theorem xor_i64_ones (a : Nat) (ha : a < 9223372036854775808) : bits .xor .i64 (a : Int) (-1) = -(a : Int) - 1 := by
  have h := congrArg BitVec.toNat (BitVec.xor_allOnes (x := BitVec.ofNat 64 a))
  rw [BitVec.toNat_xor, BitVec.toNat_allOnes, BitVec.toNat_not, BitVec.toNat_ofNat, Nat.mod_eq_of_lt (by omega)] at h
  show IntKind.i64.wrap ((BitVec.ofInt 64 (a : Int) ^^^ BitVec.ofInt 64 (-1)).toNat : Int) = _
  rw [BitVec.toNat_xor, ofInt_u64 a (by omega)]
  have e1 : (BitVec.ofInt 64 (-1)).toNat = 2 ^ 64 - 1 := by decide
  rw [e1, h, IntKind.wrap_i64]
  omega
theorem xor_i64_zero (a : Nat) (ha : a < 9223372036854775808) : bits .xor .i64 (a : Int) 0 = (a : Int) := by
  show IntKind.i64.wrap ((BitVec.ofInt 64 (a : Int) ^^^ BitVec.ofInt 64 0).toNat : Int) = _
  rw [BitVec.toNat_xor, ofInt_u64 a (by omega)]
  have e1 : (BitVec.ofInt 64 0).toNat = 0 := by decide
  rw [e1, Nat.xor_zero, IntKind.wrap_i64]
  omega
theorem unsign_val (n : Nat) (h2 : n < 18446744073709551616) :
    bits .xor .i64 ((n : Int) / 2) (wrap64 (-wrap64 (bits .and .u64 (n : Int) 1))) = unsignZ n := by
  unfold unsignZ
  have e0 : bits .and .u64 (n : Int) 1 = ((n % 2 : Nat) : Int) := by
    rw [show (1 : Int) = ((1 : Nat) : Int) from rfl, u64_and_nat _ _ h2 (by decide), nat_mask1]
  rw [e0, show ((n : Int) / 2) = ((n / 2 : Nat) : Int) by omega]
  by_cases h : n % 2 = 0
  · rw [if_pos h, h]
    rw [show wrap64 (-wrap64 ((0 : Nat) : Int)) = 0 by decide +kernel]
    exact xor_i64_zero (n / 2) (by omega)
  · rw [if_neg h, show n % 2 = 1 by omega]
    rw [show wrap64 (-wrap64 ((1 : Nat) : Int)) = -1 by decide +kernel]
    exact xor_i64_ones (n / 2) (by omega)
theorem signN_lt (n : Int) (h1 : -9223372036854775808 ≤ n) (h2 : n ≤ 9223372036854775807) : signN n < 18446744073709551616 := by unfold signN; split <;> omega
theorem unsign_sign (n : Int) : unsignZ (signN n) = n := by unfold unsignZ signN; split <;> split <;> omega
theorem sign_unsign (n : Nat) : signN (unsignZ n) = n := by unfold unsignZ signN; split <;> split <;> omega
theorem unsignZ_bd (n : Nat) (h : n < 18446744073709551616) : -9223372036854775808 ≤ unsignZ n ∧ unsignZ n ≤ 9223372036854775807 := by unfold unsignZ; split <;> omega

/-! ### eight bytes -/
def eightB (n : Nat) : List UInt8 := (List.range 8).map fun i => UInt8.ofNat (n / 2 ^ (56 - 8 * i))
theorem eightB_len (n : Nat) : (eightB n).length = 8 := by simp [eightB]
theorem eightB_step (n k : Nat) (hk : k < 8) : (eightB n).take k ++ [UInt8.ofNat (n / 2 ^ (56 - 8 * k))] = (eightB n).take (k + 1) := by
  rw [List.take_succ_eq_append_getElem (by simpa [eightB] using hk)]
  simp [eightB]
theorem eight_byte (x k : Nat) : Value.int .u8 ((x : Int) / 2 ^ (56 - 8 * k) % 256) = bv (UInt8.ofNat (x / 2 ^ (56 - 8 * k))) := by
  rw [bv_ofNat]; simp
def foldN (l : List UInt8) : Nat := l.foldl (fun a c => a * 256 + c.toNat) 0
theorem foldN_snoc (l : List UInt8) (c : UInt8) : foldN (l ++ [c]) = foldN l * 256 + c.toNat := by simp [foldN]
theorem foldN_lt (l : List UInt8) : foldN l < 256 ^ l.length := by
  suffices h : ∀ r : List UInt8, foldN r.reverse < 256 ^ r.reverse.length by simpa using h l.reverse
  intro r
  induction r with
  | nil => simp [foldN]
  | cons c r ih =>
    rw [List.reverse_cons, foldN_snoc, List.length_append, List.length_singleton, Nat.pow_succ]
    have := c.toNat_lt
    omega
theorem fold_val {a : Nat} {ch : UInt8} {k : Nat} (hk : k ≤ 7) (ha : a < 256 ^ k) :
    bits .or .u64 (IntKind.u64.wrap ((a : Int) * 256)) (IntKind.u64.wrap (ch.toNat : Int)) = ((a * 256 + ch.toNat : Nat) : Int) := by
  have h7 : (256 : Nat) ^ k ≤ 256 ^ 7 := Nat.pow_le_pow_right (by decide) hk
  have e7 : (256 : Nat) ^ 7 = 72057594037927936 := by decide
  have hc := ch.toNat_lt
  have e1 : IntKind.u64.wrap ((a : Int) * 256) = ((a * 256 : Nat) : Int) := by rw [IntKind.wrap_u64]; omega
  have e2 : IntKind.u64.wrap (ch.toNat : Int) = ((ch.toNat : Nat) : Int) := by rw [IntKind.wrap_u64]; omega
  rw [e1, e2, u64_or_nat _ _ (by omega) (by omega), nat_join 8 _ _ (by omega) (by omega)]
def uneightL (l : List UInt8) : Nat × Nat := if l.length < 8 then (0, 4) else (foldN (l.take 8), 0)

/-! ### lists -/
def numsB (q : List UInt64) : List UInt8 := q.flatMap fun x => numB x.toNat
def listB (q : List UInt64) : List UInt8 := numB q.length ++ numsB q
theorem numsB_snoc (q : List UInt64) (x : UInt64) : numsB (q ++ [x]) = numsB q ++ numB x.toNat := by simp [numsB]
theorem numsB_len (q : List UInt64) : (numsB q).length ≤ 10 * q.length := by
  induction q with
  | nil => simp [numsB]
  | cons x q ih => have := numB_ten x.toNat_lt; simp only [numsB, List.flatMap_cons, List.length_append, List.length_cons] at *; omega

theorem neq0 (e : Nat) : (((e : Int) != 0) = true → e ≠ 0) ∧ (((e : Int) != 0) = false → e = 0) := by
  constructor
  · intro h he; subst he; simp at h
  · intro h
    rcases Nat.eq_zero_or_pos e with h0 | h0
    · exact h0
    · exfalso
      have : ((e : Int) != 0) = true := by rw [bne_iff_ne]; omega
      rw [this] at h; cases h

/-! ### what Take answers -/
theorem takeGo_ok (l : List UInt8) : ∀ (i acc : Nat), i ≤ 9 → acc < 128 ^ i → (takeGo l i acc).2.2 = 0 →
    (takeGo l i acc).1 < 18446744073709551616 ∧ i + 1 ≤ (takeGo l i acc).2.1 ∧ (takeGo l i acc).2.1 ≤ i + l.length ∧ (takeGo l i acc).2.1 ≤ 10 := by
  induction l with
  | nil => intro i acc _ _ h; simp [takeGo] at h
  | cons c r ih =>
    intro i acc hi ha h
    by_cases hf : (i = 9 ∧ 1 < c.toNat) ∨ (0 < i ∧ c.toNat = 0)
    · rw [takeGo_form hf] at h; simp at h
    · by_cases h2 : c.toNat < 128
      · rw [takeGo_end hf h2]
        exact ⟨take_fit hi ha (by omega), by simp, by simp only [List.length_cons]; omega, by simp only; omega⟩
      · rw [takeGo_more hf h2] at h ⊢
        have hi9 : i ≤ 8 := by omega
        obtain ⟨a, b, c', d⟩ := ih (i + 1) _ (by omega) (take_step ha) h
        exact ⟨a, by omega, by simp only [List.length_cons]; omega, d⟩
theorem takeL_ok {l : List UInt8} (h : (takeL l).2.2 = 0) : (takeL l).1 < 18446744073709551616 ∧ 1 ≤ (takeL l).2.1 ∧ (takeL l).2.1 ≤ l.length ∧ (takeL l).2.1 ≤ 10 := by
  unfold takeL at h ⊢
  obtain ⟨a, b, c, d⟩ := takeGo_ok l 0 0 (by omega) (by simp) h
  exact ⟨a, by omega, by simpa using c, d⟩
theorem takeGo_bad (l : List UInt8) : ∀ (i acc : Nat), (takeGo l i acc).2.2 ≠ 0 → (takeGo l i acc).1 = 0 ∧ (takeGo l i acc).2.1 = 0 ∧ ((takeGo l i acc).2.2 = 3 ∨ (takeGo l i acc).2.2 = 4) := by
  induction l with
  | nil => intro i acc _; simp [takeGo]
  | cons c r ih =>
    intro i acc h
    by_cases hf : (i = 9 ∧ 1 < c.toNat) ∨ (0 < i ∧ c.toNat = 0)
    · rw [takeGo_form hf]; simp
    · by_cases h2 : c.toNat < 128
      · rw [takeGo_end hf h2] at h; simp at h
      · rw [takeGo_more hf h2] at h ⊢; exact ih _ _ h
theorem takeL_bad {l : List UInt8} (h : (takeL l).2.2 ≠ 0) : (takeL l).1 = 0 ∧ (takeL l).2.1 = 0 ∧ ((takeL l).2.2 = 3 ∨ (takeL l).2.2 = 4) := takeGo_bad l 0 0 h

/-- what is left of Unlist: k numbers are still to come -/
def unGo : Nat → List UInt8 → Nat → List UInt64 → List UInt64 × Nat × Nat
  | 0, _, at_, acc => (acc, at_, 0)
  | k + 1, l, at_, acc =>
    if (takeL (l.drop at_)).2.2 = 0 then unGo k l (at_ + (takeL (l.drop at_)).2.1) (acc ++ [UInt64.ofNat (takeL (l.drop at_)).1])
    else ([], 0, (takeL (l.drop at_)).2.2)
def unlistL (l : List UInt8) (most : Int) : List UInt64 × Nat × Nat :=
  if (takeL l).2.2 ≠ 0 then ([], 0, (takeL l).2.2)
  else if (if most < 0 then 0 else most) < ((takeL l).1 : Int) then ([], 0, 2)
  else unGo (takeL l).1 l (takeL l).2.1 []

end Go.Proofs.Ytnjmekjaingniaa

/-
  The walks of num: Put.
-/
namespace Go.Proofs.Ytnjmekjaingniaa
open Go.RowKit
set_option linter.unusedVariables false


theorem or128 : ∀ k, k < 256 → bits .or .u8 ((k : Nat) : Int) 128 = ((k % 128 + 128 : Nat) : Int) := by decide +kernel
theorem put_byte (m : Nat) : Value.int .u8 (bits BinOp.or IntKind.u8 ((m : Int) % 256) 128) = bv (UInt8.ofNat (m % 128 + 128)) := by
  rw [bv_ofNat, show ((m : Int) % 256) = ((m % 256 : Nat) : Int) by omega, or128 _ (Nat.mod_lt _ (by decide))]
  congr 1; omega

set_option maxRecDepth 100000 in
set_option maxHeartbeats 400000 in
theorem put_any (A : Option Addr) (n c : Nat) (bs : List UInt8) (x : Nat) (w : World) (hr : Rd w w.heap.size 1 A n (bvs bs)) (hn : n ≤ 1099511627776) (hx : (x : Int) ≤ 18446744073709551615) :
    Calls Try.prog 56 #[.slice A n c, .int .u64 (x : Int)] w fun e w' => ∃ A' n' c', e = .returned (.slice A' n' c') ∧ OwnB w' w.heap.size A' n' c' (bs ++ numB x) ∧ Up w w' := by
  go_enter Try.func56, Try.ntmps56
  go_wp2_with (first
    | (at_builtin
       refine wpList_append_rd _ bytesT (World.ownsRow_nil _ w.heap.size _ _) hr (bvs_one _) (by omega) (by omega) (Nat.le_refl _) rfl rfl rfl rfl ?_
       intro v1 w1 hown1 hg1 hat1))
  have hu1 : Up w w1 := (Up.refl w).grown hg1 (by simp [Value.ownBlock])
  simp only [Nat.zero_add, List.nil_append] at hown1
  go_loopw [1, 5] (fun q v wr => ∃ (m : Nat) (pre : List UInt8), q = .int .u64 (m : Int) ∧ (m : Int) ≤ 18446744073709551615 ∧ wr.ownsRow w.heap.size 5 1 v pre.length (bvs pre) ∧ Hid (pre ++ numB m = bs ++ numB x) ∧ Up w wr)
    (fun q _ _ => (intOf q).toNat)
  case atStart => exact ⟨x, bs, rfl, by omega, by have := hr.len; simp only [bvs_length, Nat.mul_one] at this; rw [this]; exact hown1, rfl, hu1⟩
  case round =>
    obtain ⟨m, pre, rfl, hm, hown, hp, hu⟩ := hrel
    clear hown1 hu1
    have hl : pre.length + (numB m).length = n + (numB x).length := by
      have := congrArg List.length hp.out; have h2 := hr.len
      simp only [List.length_append, bvs_length, Nat.mul_one] at this h2; omega
    have hxt := numB_ten (n := x) (by omega)
    have hbd : pre.length ≤ 1099511627786 := by omega
    have HL := Lib.hid hl
    clear hl hxt hn hr
    by_cases hlt : m < 128
    · have hb : Value.int .u8 (m : Int) = bv (UInt8.ofNat m) := by rw [bv_ofNat]; congr 1; omega
      have HB := Lib.hid hb; clear hb
      go_wp2_with (at_builtin; refine wpList_append_rd _ bytesT (news := bvs [UInt8.ofNat m]) (hown.alloc _) (Rd.boxb _ _ HB.out) (bvs_one _) (by omega) (by omega) (by simp; have := hu.size; omega) rfl rfl rfl rfl ?_; intro v2 w2 hown2 hg2 hat2)
      obtain ⟨A2, c2, rfl⟩ := own_form hown2
      go_ret
      refine ⟨A2, _, c2, rfl, ?_, hu.alloc _ |>.grown hg2 (fun k hk => (hown.lt k hk).1)⟩
      show World.ownsRow _ _ _ _ _ _ _
      rw [← hp.out, bvs_append, numB_lo hlt]; exact hown2
    · have HB := Lib.hid (put_byte m)
      go_wp2_with (at_builtin; refine wpList_append_rd _ bytesT (news := bvs [UInt8.ofNat (m % 128 + 128)]) (hown.alloc _) (Rd.boxb _ _ HB.out) (bvs_one _) (by omega) (by omega) (by simp; have := hu.size; omega) rfl rfl rfl rfl ?_; intro v2 w2 hown2 hg2 hat2)
      go_roundw
      case rel =>
        refine ⟨m / 128, pre ++ [UInt8.ofNat (m % 128 + 128)], by go_num, by omega, ?_, ?_, hu.alloc _ |>.grown hg2 (fun k hk => (hown.lt k hk).1)⟩
        · rw [bvs_append, List.length_append]; exact hown2
        · show _ = _; rw [← hp.out, numB_hi hlt]; simp
      case measure => simp [intOf]; omega

end Go.Proofs.Ytnjmekjaingniaa

/-
  The walks of num: Take.
-/
namespace Go.Proofs.Ytnjmekjaingniaa
open Go.RowKit
set_option linter.unusedVariables false

set_option maxRecDepth 100000 in
set_option maxHeartbeats 400000 in
theorem take_any (A : Option Addr) (n c : Nat) (bs : List UInt8) (w : World) (hr : Rd w w.heap.size 1 A n (bvs bs)) (hn : n ≤ 9223372036854775807) :
    Calls Try.prog 64 #[.slice A n c] w fun e w' => e = .returned (.tuple #[.int .u64 ((takeL bs).1 : Int), .int .i64 ((takeL bs).2.1 : Int), .int .i64 ((takeL bs).2.2 : Int)]) ∧ w = w' := by
  go_enter Try.func64, Try.ntmps64
  go_wp2
  go_loop [2, 9] (fun q i => ∃ (k acc : Nat), i = .int .i64 (k : Int) ∧ q = .int .u64 (acc : Int) ∧ k ≤ n ∧ k ≤ 9 ∧ acc < 128 ^ k ∧ Hid (takeGo (bs.drop k) k acc = takeL bs)) (fun _ i => n - (intOf i).toNat)
  case atStart => exact ⟨0, 0, rfl, rfl, by omega, by omega, by simp, rfl⟩
  case round =>
    obtain ⟨k, acc, rfl, rfl, hk, hk9, hacc, ht⟩ := hrel
    by_cases hlt : k < n
    · obtain ⟨b, o, rfl, _, hc⟩ := hr.byte hlt
      have hbl : k < bs.length := by have := hr.len; simp only [bvs_length] at this; omega
      have htg : takeGo (bs.drop k) k acc = takeGo (bs.getD k 0 :: bs.drop (k + 1)) k acc := by
        rw [List.drop_eq_getElem_cons hbl]; simp [List.getD, hbl]
      generalize (bs.getD k 0) = ch at hc htg
      have HT : Hid (takeGo (ch :: bs.drop (k + 1)) k acc = takeL bs) := htg.symm.trans ht.out
      clear htg ht hr
      have HZ := Lib.hid (byte0 ch)
      by_cases h9 : k = 9
      · subst h9
        go_wp2
        all_goals (first | have hz := HZ.out.1 (by assumption) | have hz := HZ.out.2 (by assumption) | skip)
        all_goals first
          | (go_ret3; rw [← HT.out, takeGo_form (by omega)]; exact ⟨rfl, rfl⟩)
          | (go_ret3; rw [← HT.out, takeGo_end (by omega) (by omega)]; exact ⟨by rw [← take_val9 hacc (by omega)]; rfl, rfl⟩)
      · go_wp2
        all_goals (first | have hz := HZ.out.1 (by assumption) | have hz := HZ.out.2 (by assumption) | skip)
        all_goals first
          | (go_ret3; rw [← HT.out, takeGo_form (by omega)]; exact ⟨rfl, rfl⟩)
          | (go_ret3; rw [← HT.out, takeGo_end (by omega) (by omega)]; exact ⟨by rw [← take_val (by omega) hacc (by omega)]; rfl, rfl⟩)
          | (go_round
             case rel => exact ⟨k + 1, _, by go_num, congrArg _ (take_val (by omega) hacc (by omega)), by omega, by omega, take_step hacc, (takeGo_more (by omega) (by omega)).symm.trans HT.out⟩
             case measure => simp [intOf]; omega)
    · go_wp2
      go_ret3
      have hk' : k = n := by omega
      rw [← ht.out, List.drop_of_length_le (by have := hr.len; simp only [bvs_length] at this; omega)]
      exact ⟨rfl, rfl⟩

end Go.Proofs.Ytnjmekjaingniaa

/-
  The walks of num: Sign, Unsign, Uneight, Eight.
-/
namespace Go.Proofs.Ytnjmekjaingniaa
open Go.RowKit
set_option linter.unusedVariables false

theorem sign_any (n : Int) (w : World) (h1 : -9223372036854775808 ≤ n) (h2 : n ≤ 9223372036854775807) :
    Calls Try.prog 57 #[.int .i64 n] w fun e w' => e = .returned (.int .u64 (signN n : Int)) ∧ w = w' := by
  go_enter Try.func57, Try.ntmps57
  go_wp2
  go_ret
  exact ⟨by rw [← sign_val n h1 h2]; rfl, rfl⟩

theorem unsign_any (n : Nat) (w : World) (h2 : (n : Int) ≤ 18446744073709551615) :
    Calls Try.prog 84 #[.int .u64 (n : Int)] w fun e w' => e = .returned (.int .i64 (unsignZ n)) ∧ w = w' := by
  go_enter Try.func84, Try.ntmps84
  go_wp2
  go_ret
  exact ⟨by rw [← unsign_val n (by omega)]; rfl, rfl⟩



end Go.Proofs.Ytnjmekjaingniaa

/-
  The walks of item: Key, All.
-/
namespace Go.Proofs.Ytnjmekjaingniaa
open Go.RowKit
set_option linter.unusedVariables false

def keyB (i : It) : List UInt8 := byteOf i.s.toInt :: byteOf i.k.toInt :: eightB i.t.toNat


set_option maxRecDepth 100000 in
set_option maxHeartbeats 800000 in
theorem all1_any (i : It) (w : World) :
    Calls Try.prog 79 #[.agg #[.int .i64 i.s.toInt, .int .i64 i.k.toInt, .int .u64 (i.t.toNat : Int), .int .u64 (i.v.toNat : Int), .int .i64 i.x.toInt]] w fun e w' => e = .returned (.bool (!okB i)) ∧ Up w w' := by
  go_enter Try.func79, Try.ntmps79
  go_wp2_with fail
  refine (ok_any i _).mono ?_
  rintro e w1 ⟨rfl, hu⟩
  go_wp2_with fail
  go_ret
  exact ⟨rfl, ((Up.refl w).alloc _).trans hu⟩
set_option maxRecDepth 100000 in
set_option maxHeartbeats 800000 in
theorem indexf_any (A : Option Addr) (n c : Nat) (l : List It) (w : World) (hr : Rd w w.heap.size 5 A n (itcs l)) (hn : n ≤ 9223372036854775807) :
    Calls Try.prog 87 #[.slice A n c, .func (.func 79) #[] #[]] w fun e w' => ∃ z : Int, e = .returned (.int .i64 z) ∧ Hid (l.all okB = decide (z < 0)) ∧ Up w w' := by
  have HL := Lib.hid hr.ilen
  go_enter Try.func87, Try.ntmps87
  go_wp2_with fail
  go_loopw [8] (fun i wr => ∃ k : Nat, i = .int .i64 (k : Int) ∧ k ≤ n ∧ Hid ((l.take k).all okB = true) ∧ Up w wr) (fun i _ => n - (intOf i).toNat)
  case atStart => exact ⟨0, rfl, by omega, rfl, Up.refl _⟩
  case round =>
    obtain ⟨k, rfl, hk, hall, hu⟩ := hrel
    by_cases hlt : k < n
    · obtain ⟨b, o, i, rfl, hb, hik, c0, c1, c2, c3, c4⟩ := (hr.stay (Nat.le_refl _) hu).item_at hlt
      have HI := Lib.hid hik
      clear hik
      go_wp2_with fail
      refine (all1_any i wr).mono ?_
      rintro e w2 ⟨rfl, hu2⟩
      have hkl : k < l.length := by have := HL.out; omega
      have htk : l.take (k + 1) = l.take k ++ [i] := by
        rw [List.take_succ_eq_append_getElem hkl]
        have := HI.out
        rw [List.getElem?_eq_getElem hkl] at this
        injection this with this
        rw [this]
      have HT := Lib.hid htk
      clear htk c0 c1 c2 c3 c4
      cases hok : okB i
      · have hf : Hid (l.all okB = decide ((k : Int) < 0)) := by
          show _ = _
          have : okB l[k] = false := by
            have h := HI.out
            rw [List.getElem?_eq_getElem hkl] at h
            injection h with h
            rw [h]; exact hok
          have h2 : l.all okB = false := by
            rw [List.all_eq_false]
            exact ⟨l[k], List.getElem_mem _, by rw [this]; simp⟩
          rw [h2]; simp
        clear hok
        go_wp2_with fail
        go_ret
        exact ⟨k, rfl, hf, hu.trans hu2⟩
      · have HO := Lib.hid hok
        clear hok
        go_wp2_with fail
        go_roundw
        case rel =>
          refine ⟨k + 1, by go_num, by omega, ?_, hu.trans hu2⟩
          show _ = _
          rw [HT.out, List.all_append, hall.out]
          simp [HO.out]
        case measure => simp [intOf]; omega
    · go_wp2_with fail
      go_ret
      refine ⟨-1, rfl, ?_, hu⟩
      show _ = _
      have hk' : k = l.length := by have := HL.out; omega
      have h := hall.out
      rw [hk', List.take_of_length_le (Nat.le_refl _)] at h
      rw [h]; rfl
set_option maxRecDepth 100000 in
theorem all_any (A : Option Addr) (n c : Nat) (l : List It) (w : World) (hr : Rd w w.heap.size 5 A n (itcs l)) (hn : n ≤ 9223372036854775807) :
    Calls Try.prog 55 #[.slice A n c] w fun e w' => e = .returned (.bool (l.all okB)) ∧ Up w w' := by
  have h1 := indexf_any A n c l w hr hn
  have H1 := Lib.hid h1
  clear h1
  generalize l.all okB = r at *
  have h2 : Calls Try.prog 78 #[.slice A n c, .func (.func 79) #[] #[]] w fun e w' => e = .returned (.bool (!r)) ∧ Up w w' := by
    go_enter Try.func78, Try.ntmps78
    go_wp2_with fail
    refine H1.out.mono ?_
    rintro e w1 ⟨z, rfl, hz, hu⟩
    go_wp2_with fail
    go_ret
    refine ⟨ret_bool ?_, hu⟩
    rw [hz.out]
    by_cases h : z < 0
    · simp [h]
    · simp [h]; omega
  have H2 := Lib.hid h2
  clear h2 H1
  go_enter Try.func55, Try.ntmps55
  go_wp2_with fail
  refine H2.out.mono ?_
  rintro e w1 ⟨rfl, hu⟩
  go_wp2_with fail
  go_ret
  exact ⟨ret_bool (by simp), hu⟩
end Go.Proofs.Ytnjmekjaingniaa

/-
  The walk of item.Bytes.
-/
namespace Go.Proofs.Ytnjmekjaingniaa
open Go.RowKit
set_option linter.unusedVariables false

def itB (i : It) : List UInt8 := byteOf i.s.toInt :: byteOf i.k.toInt :: (numB i.t.toNat ++ (numB i.v.toNat ++ numB (signN i.x.toInt)))
def itemsB (l : List It) : List UInt8 := numB l.length ++ l.flatMap itB
def bytesE (l : List It) : Nat := if 2000 < l.length then 2 else if l.all okB then 0 else 1
/-- what Bytes hands back -/
def bytesL (bs : List UInt8) (l : List It) : List UInt8 := if bytesE l = 0 then bs ++ itemsB l else []
theorem bytesL_no {bs : List UInt8} {l : List It} (h : bytesE l ≠ 0) : bytesL bs l = [] := by unfold bytesL; rw [if_neg h]
theorem bytesL_yes {bs : List UInt8} {l : List It} (h : bytesE l = 0) : bytesL bs l = bs ++ itemsB l := by unfold bytesL; rw [if_pos h]
theorem i64_bd (i : Int64) : -9223372036854775808 ≤ i.toInt ∧ i.toInt ≤ 9223372036854775807 := ⟨by have := i.le_toInt; simpa using this, by have := i.toInt_lt; omega⟩
theorem itB_len (i : It) : (itB i).length ≤ 32 := by
  have h1 := numB_ten i.t.toNat_lt
  have h2 := numB_ten i.v.toNat_lt
  have h3 := numB_ten (signN_lt i.x.toInt (i64_bd i.x).1 (i64_bd i.x).2)
  simp only [itB, List.length_cons, List.length_append]; omega

set_option maxRecDepth 100000 in
set_option maxHeartbeats 3200000 in
theorem bytes_any (A : Option Addr) (n c : Nat) (bs : List UInt8) (Q : Option Addr) (m d : Nat) (l : List It) (w : World) (hr : Rd w w.heap.size 1 A n (bvs bs)) (hq : Rd w w.heap.size 5 Q m (itcs l)) (hn : n ≤ 1099511627000) (hm : m ≤ 9223372036854775807) :
    Calls Try.prog 32 #[.slice A n c, .slice Q m d] w fun e w' => ∃ A' n' c', e = .returned (.tuple #[.slice A' n' c', .int .i64 (bytesE l : Int)]) ∧ OwnB w' w.heap.size A' n' c' (bytesL bs l) ∧ Up w w' := by
  have HN := Lib.hid hr.blen
  have HM := Lib.hid hq.ilen
  have nil0 : ∀ w0, OwnB w0 w.heap.size none 0 0 [] := fun w0 => World.ownsRow_nil _ _ _ _
  have NIL := Lib.hid nil0
  clear nil0
  by_cases hbig : 2000 < m
  · have hE : Hid (bytesE l = 2) := by show _ = _; unfold bytesE; rw [if_pos (by rw [← HM.out]; exact hbig)]
    go_enter Try.func32, Try.ntmps32
    go_wp2_with fail
    go_ret2
    rw [hE.out, bytesL_no (by rw [hE.out]; omega)]
    exact ⟨none, 0, 0, rfl, NIL.out _, Up.refl _⟩
  cases hall : l.all okB
  · have hE : Hid (bytesE l = 1) := by show _ = _; unfold bytesE; rw [if_neg (by rw [← HM.out]; exact hbig), hall]; rfl
    have HA := Lib.hid hall
    clear hall
    go_enter Try.func32, Try.ntmps32
    go_wp2_with fail
    refine (all_any Q m d l w hq hm).mono ?_
    rintro e w1 ⟨rfl, hu⟩
    rw [HA.out]
    go_wp2_with fail
    go_ret2
    rw [hE.out, bytesL_no (by rw [hE.out]; omega)]
    exact ⟨none, 0, 0, rfl, NIL.out _, hu⟩
  · have hE : Hid (bytesE l = 0) := by show _ = _; unfold bytesE; rw [if_neg (by rw [← HM.out]; exact hbig), hall]; rfl
    have HA := Lib.hid hall
    clear hall
    go_enter Try.func32, Try.ntmps32
    go_wp2_with fail
    refine (all_any Q m d l w hq hm).mono ?_
    rintro e w1 ⟨rfl, hu1⟩
    rw [HA.out]
    go_wp2_with fail
    refine (put_any A n c bs m w1 (hr.up hu1) (by omega) (by omega)).mono ?_
    rintro e w2 ⟨A2, n2, c2, rfl, ho2, hu2⟩
    have hu12 := hu1.trans hu2
    go_wp2_with fail
    go_loopw [7, 25] (fun v i wr => ∃ (k : Nat) (R : Option Addr) (rn rc : Nat), i = .int .i64 (k : Int) ∧ v = .slice R rn rc ∧ k ≤ m ∧ rn ≤ 32 * k ∧ OwnB wr w2.heap.size R rn rc ((l.take k).flatMap itB) ∧ Up w2 wr) (fun _ i _ => m - (intOf i).toNat)
    case atStart => exact ⟨0, none, 0, 0, rfl, rfl, by omega, by omega, World.ownsRow_nil _ _ _ _, Up.refl _⟩
    case round =>
      obtain ⟨k, R, rn, rc, rfl, rfl, hk, hrn, hown, hu⟩ := hrel
      by_cases hlt : k < m
      · obtain ⟨b, o, i, rfl, hb, hik, x0, x1, x2, x3, x4⟩ := (hq.stay (Nat.le_refl _) (hu12.trans hu)).item_at hlt
        have HI := Lib.hid hik
        clear hik
        have hbi := i64_bd i.x
        obtain ⟨hbi1, hbi2⟩ := hbi
        go_wp2_with (at_builtin; refine wpList_append_rd _ bytesT (news := bvs [byteOf i.s.toInt, byteOf i.k.toInt]) (World.ownsRow.alloc (World.ownsRow.alloc hown _) _) (Rd.lit_at _ _ _ _ (by simp) (by simp [bvs, bv_byteOf])) (bvs_one _) (by simp; omega) (by simp; omega) (by simp; have := hu.size; omega) rfl rfl rfl rfl ?_; intro v3 w3 hown3 hg3 hat3; obtain ⟨R3, rc3, rfl⟩ := own_form hown3)
        have hx3 := ((Rd.item wr i 25).alloc (by simp) (.cells #[.int .u8 (i.s.toInt % 256), .int .u8 (i.k.toInt % 256)] 5)).far (by omega) hg3 (by simp; omega) (fun e => by have := (hown.lt _ e.symm).2; omega)
        obtain ⟨g0, g1, g2, g3, g4⟩ := five_cells hx3
        have hu3 : Up w2 w3 := (((hu.alloc _).alloc _).grown hg3 (fun g hg => (hown.lt g hg).1))
        clear hx3 g0 g1 x0 x1 x2 x3 x4
        go_wp2_with fail
        go_region_held3 (fun W => W.cell? ⟨wr.heap.size, 2, none⟩ = some (.int .u64 (i.t.toNat : Int)) ∧ W.cell? ⟨wr.heap.size, 3, none⟩ = some (.int .u64 (i.v.toNat : Int)) ∧ W.cell? ⟨wr.heap.size, 4, none⟩ = some (.int .i64 i.x.toInt)) (first | exact ⟨g2, g3, g4⟩ | go_keep)
          (first | (go_at_call 57; refine (sign_any _ _ (by omega) (by omega)).mono ?_; rintro e w' ⟨rfl, rfl⟩))
        go_wp2_with fail
        have hlit : Rd (w3.drew.alloc (.cells #[.int .u64 (i.t.toNat : Int), .int .u64 (i.v.toNat : Int), .int .u64 (signN i.x.toInt : Int)] 23)) (w3.heap.size + 1) 1 (some ⟨w3.heap.size, 0, none⟩) 3 (nvs [i.t.toNat, i.v.toNat, signN i.x.toInt]) := by
          have := Rd.made (sz := 1) (n := 3) w3.drew #[.int .u64 (i.t.toNat : Int), .int .u64 (i.v.toNat : Int), .int .u64 (signN i.x.toInt : Int)] 23 rfl
          rw [World.size_alloc] at this
          exact this
        have hns : ∀ j, j < 3 → ([i.t.toNat, i.v.toNat, signN i.x.toInt].getD j 0 : Int) ≤ 18446744073709551615 := by
          intro j hj
          have h1 := i.t.toNat_lt
          have h2 := i.v.toNat_lt
          have h3 := signN_lt i.x.toInt (by omega) (by omega)
          match j, hj with
          | 0, _ => simp; omega
          | 1, _ => simp; omega
          | 2, _ => simp; omega
        have hitB : itB i = [byteOf i.s.toInt, byteOf i.k.toInt] ++ [i.t.toNat, i.v.toNat, signN i.x.toInt].flatMap numB := by simp [itB]
        have hr3n : rn + [byteOf i.s.toInt, byteOf i.k.toInt].length = rn + 2 := rfl
        rw [hr3n, ← bvs_append] at hown3
        have HNS := Lib.hid hns
        have HIT := Lib.hid hitB
        clear hns hitB hr3n g2 g3 g4
        obtain ⟨ns, hns0⟩ : ∃ ns, [i.t.toNat, i.v.toNat, signN i.x.toInt] = ns := ⟨_, rfl⟩
        have hns3 : ns.length = 3 := by rw [← hns0]; rfl
        rw [hns0] at hlit HNS HIT
        have hne3 : R3 ≠ some ⟨w3.heap.size, 0, none⟩ := by
          intro e; subst e
          have := (hown3.lt w3.heap.size rfl).2; omega
        clear hns0
        go_loopw [7, 47] (fun v j ws => ∃ (q : Nat) (S : Option Addr) (sn sc : Nat), j = .int .i64 (q : Int) ∧ v = .slice S sn sc ∧ q ≤ 3 ∧ sn ≤ rn + 2 + 10 * q ∧ OwnB ws w2.heap.size S sn sc ((l.take k).flatMap itB ++ [byteOf i.s.toInt, byteOf i.k.toInt] ++ (ns.take q).flatMap numB) ∧ Hid (S ≠ some ⟨w3.heap.size, 0, none⟩) ∧ Rd ws (w3.heap.size + 1) 1 (some ⟨w3.heap.size, 0, none⟩) 3 (nvs ns) ∧ Up w2 ws ∧ w3.heap.size < ws.heap.size) (fun _ j _ => 3 - (intOf j).toNat)
        case atStart => exact ⟨0, R3, rn + 2, rc3, rfl, rfl, by omega, by omega, by rw [List.take_zero, List.flatMap_nil, List.append_nil]; exact World.ownsRow.alloc hown3 _, hne3, hlit, (hu3.drew).alloc _, by simp⟩
        case round =>
          obtain ⟨q, S, sn, sc, rfl, rfl, hq3, hsn, hows, hne, hlt3, hus, hsz⟩ := hrel
          clear hlit hown3 hne3 hu3 hg3 hat3
          by_cases hq' : q < 3
          · obtain ⟨b5, o5, e5, hb5, hc5⟩ := hlt3.nat hq'
            injection e5 with e5
            injection e5 with e6 e7
            subst e6; subst e7
            rw [Nat.zero_add] at hc5
            have hv := HNS.out q hq'
            have htk : ns.take (q + 1) = ns.take q ++ [ns.getD q 0] := by
              rw [List.take_succ_eq_append_getElem (by omega)]; simp [List.getD, hns3, hq']
            generalize ns.getD q 0 = x at hc5 hv htk
            have HTK := Lib.hid htk
            clear htk
            have hxl := numB_ten (n := x) (by omega)
            go_wp2_with fail
            refine (put_any none 0 0 [] x _ Rd.empty (by omega) hv).mono ?_
            rintro e w5 ⟨A5, n5, c5, rfl, ho5, hu5⟩
            rw [List.nil_append] at ho5
            have hn5 := ho5.len
            have hn5b : n5 ≤ 10 := by omega
            have HN5 := Lib.hid hn5
            clear hn5 hxl
            have hk32 : sn ≤ 64100 := by omega
            go_wp2_with (at_builtin; refine wpList_append_rd _ bytesT (hows.up hu5) ho5.rd (bvs_one _) (by omega) (by omega) (by have := hus.size; have := hu5.size; omega) rfl rfl rfl rfl ?_; intro v6 w6 hown6 hg6 hat6; obtain ⟨S6, sc6, rfl⟩ := own_form hown6)
            have hlt5 : w3.heap.size < w5.heap.size := Nat.lt_of_lt_of_le hsz hu5.size
            have hnb : ∀ g, some g = (Value.slice S sn sc).ownBlock → g < w5.heap.size ∧ g ≠ w3.heap.size := by
              intro g hg
              have h1 := ((hows.up hu5).lt g hg.symm).2
              refine ⟨h1, fun e => hne.out ?_⟩
              subst e
              obtain ⟨g', hS, _⟩ : ∃ g', S = some ⟨g', 0, none⟩ ∧ True := by
                rcases hows.2 with ⟨hv', _⟩ | ⟨g', _, _, hv', _⟩
                · injection hv' with hS _ _; subst hS; simp [Value.ownBlock] at hg
                · injection hv' with hS _ _; exact ⟨g', hS, trivial⟩
              subst hS
              simp [Value.ownBlock] at hg
              rw [hg]
            go_roundw
            case rel =>
              refine ⟨q + 1, S6, sn + n5, sc6, by go_num, rfl, by omega, by omega, ?_, ?_, ?_, (hus.trans hu5).grown hg6 (fun g hg => ((hows.up hu5).lt g hg).1), Nat.lt_of_lt_of_le hlt5 hg6.size⟩
              · show World.ownsRow _ _ _ _ _ _ _
                rw [HTK.out, List.flatMap_append, ← List.append_assoc, bvs_append]
                simpa using hown6
              · intro e
                subst e
                rcases hat6 with h | h
                · exact (hnb w3.heap.size (by simpa [Value.ownBlock] using h)).2 rfl
                · simp [Value.ownBlock] at h; omega
              · exact (hlt3.stay hsz hu5).far (by omega) hg6 hlt5 (fun e => (hnb _ e).2 rfl)
            case measure => simp [intOf]; omega
          · have hq3' : q = 3 := by omega
            subst hq3'
            go_wp2_with fail
            go_roundw
            case rel =>
              refine ⟨k + 1, S, sn, sc, by go_num, rfl, by omega, by omega, ?_, hus⟩
              have hkl : k < l.length := by have := HM.out; omega
              have hti : l.take (k + 1) = l.take k ++ [i] := by
                rw [List.take_succ_eq_append_getElem hkl]
                have := HI.out
                rw [List.getElem?_eq_getElem hkl] at this
                injection this with this
                rw [this]
              rw [show ns.take 3 = ns from List.take_of_length_le (by omega)] at hows
              rw [hti, List.flatMap_append, List.flatMap_singleton, HIT.out, ← List.append_assoc]
              exact hows
            case measure => simp [intOf]; omega
      · have hkm : k = m := by omega
        subst hkm
        have hrow : (l.take k).flatMap itB = l.flatMap itB := by rw [List.take_of_length_le (by have := HM.out; omega)]
        rw [hrow] at hown
        have hn2 : n2 ≤ n + 10 := by have h1 := ho2.len; have h2 := numB_ten (n := k) (by omega); have h3 := HN.out; rw [List.length_append] at h1; omega
        have ho2' : OwnB wr w.heap.size A2 n2 c2 (bs ++ numB k) := own_base (ho2.up hu) hu1.size
        clear hrow ho2
        go_wp2_with (at_builtin; refine wpList_append_rd _ bytesT ho2' hown.rd (bvs_one _) (by omega) (by omega) (hu12.trans hu).size rfl rfl rfl rfl ?_; intro v6 w6 hown6 hg6 hat6; obtain ⟨S6, sc6, rfl⟩ := own_form hown6)
        go_ret2
        rw [hE.out, bytesL_yes hE.out]
        refine ⟨S6, _, sc6, rfl, ?_, (hu12.trans hu).grown hg6 (fun g hg => (ho2'.lt g hg).1)⟩
        show World.ownsRow _ _ _ _ _ _ _
        rw [itemsB, ← HM.out, ← List.append_assoc, bvs_append]
        exact hown6
end Go.Proofs.Ytnjmekjaingniaa

/-
  The walks of sum: add, Parts, Of.
-/
namespace Go.Proofs.Ytnjmekjaingniaa
open Go.RowKit
set_option linter.unusedVariables false

def crcS (n : Nat) : Nat := if n % 2 = 1 then (n / 2) ^^^ 2197175160 else n / 2
def crcN : Nat → Nat → Nat
  | 0, n => n
  | k + 1, n => crcN k (crcS n)
def crcB (n : Nat) (b : UInt8) : Nat := crcN 8 (n ^^^ b.toNat)
def addC (n : Nat) (l : List UInt8) : Nat := l.foldl crcB n

theorem u32_and_one (a : Nat) (ha : a < 4294967296) : bits .and .u32 (a : Int) 1 = ((a % 2 : Nat) : Int) := by
  rw [show (1 : Int) = ((1 : Nat) : Int) from rfl, u32_and_nat a 1 ha (by decide), Nat.and_one_is_mod]
theorem crcS_lt {n : Nat} (h : n < 4294967296) : crcS n < 4294967296 := by
  unfold crcS
  split
  · have h2 : (n / 2) ^^^ 2197175160 < 2 ^ 32 := Nat.xor_lt_two_pow (by omega) (by decide)
    omega
  · omega
theorem crcS_val (z : Nat) (hz : z < 4294967296) : bits .xor .u32 ((z : Int) / 2) (bits .and .u32 2197175160 (-bits .and .u32 (z : Int) 1 % 4294967296)) = (crcS z : Int) := by
  rw [u32_and_one z hz]
  unfold crcS
  by_cases h : z % 2 = 1
  · rw [if_pos h, h, show (-((1 : Nat) : Int)) % 4294967296 = ((4294967295 : Nat) : Int) by decide, show (2197175160 : Int) = ((2197175160 : Nat) : Int) from rfl, u32_and_nat _ _ (by decide) (by decide),
      show (z : Int) / 2 = ((z / 2 : Nat) : Int) by omega, show 2197175160 &&& 4294967295 = 2197175160 by decide, u32_xor_nat _ _ (by omega) (by decide)]
  · have h0 : z % 2 = 0 := by omega
    rw [if_neg h, h0, show (-((0 : Nat) : Int)) % 4294967296 = ((0 : Nat) : Int) by decide, show (2197175160 : Int) = ((2197175160 : Nat) : Int) from rfl, u32_and_nat _ _ (by decide) (by decide),
      show (z : Int) / 2 = ((z / 2 : Nat) : Int) by omega, show 2197175160 &&& 0 = 0 by decide, u32_xor_nat _ _ (by omega) (by decide), Nat.xor_zero]
theorem crcN_lt : ∀ (k : Nat) {n : Nat}, n < 4294967296 → crcN k n < 4294967296
  | 0, _, h => h
  | k + 1, _, h => crcN_lt k (crcS_lt h)
theorem xorB_lt {x : Nat} (b : UInt8) (h : x < 4294967296) : x ^^^ b.toNat < 4294967296 := by
  have h2 : x ^^^ b.toNat < 2 ^ 32 := Nat.xor_lt_two_pow (by omega) (by have := b.toNat_lt; omega)
  omega
theorem crcB_lt {n : Nat} (b : UInt8) (h : n < 4294967296) : crcB n b < 4294967296 := crcN_lt 8 (xorB_lt b h)
theorem addC_lt {n : Nat} (l : List UInt8) (h : n < 4294967296) : addC n l < 4294967296 := by
  induction l generalizing n with
  | nil => exact h
  | cons b l ih => exact ih (crcB_lt b h)
theorem addC_append (n : Nat) (a b : List UInt8) : addC n (a ++ b) = addC (addC n a) b := by simp [addC]

set_option maxRecDepth 100000 in
set_option maxHeartbeats 1600000 in
theorem add_any (A : Option Addr) (m c : Nat) (l : List UInt8) (n : Nat) (w : World) (hr : Rd w w.heap.size 1 A m (bvs l)) (hm : m ≤ 9223372036854775807) (hn : n < 4294967296) :
    Calls Try.prog 89 #[.int .u32 (n : Int), .slice A m c] w fun e w' => e = .returned (.int .u32 (addC n l : Int)) ∧ w = w' := by
  have HL := Lib.hid hr.blen
  have HN := Lib.hid (Eq.refl (addC n l))
  go_enter Try.func89, Try.ntmps89
  go_wp2_with fail
  go_loop [0, 9] (fun q i => ∃ (k : Nat) (x : Nat), i = .int .i64 (k : Int) ∧ q = .int .u32 (x : Int) ∧ x < 4294967296 ∧ k ≤ m ∧ Hid (addC n (l.take k) = x)) (fun _ i => m - (intOf i).toNat)
  case atStart => exact ⟨0, n, rfl, rfl, hn, by omega, rfl⟩
  case round =>
    obtain ⟨k, x, rfl, rfl, hx, hk, hH⟩ := hrel
    by_cases hlt : k < m
    · obtain ⟨b, o, rfl, hb, hc⟩ := hr.byte hlt
      have hq : l.take (k + 1) = l.take k ++ [l.getD k 0] := by
        have : k < l.length := by have := HL.out; omega
        rw [List.take_succ_eq_append_getElem this]; simp [List.getD, this]
      generalize l.getD k 0 = b0 at hc hq
      have hxb : bits .xor .u32 (x : Int) ((b0.toNat : Int) % 4294967296) = ((x ^^^ b0.toNat : Nat) : Int) := by
        have := b0.toNat_lt
        rw [Int.emod_eq_of_lt (by omega) (by omega), u32_xor_nat _ _ hx (by omega)]
      have HQ := Lib.hid hq
      have hx0 := xorB_lt b0 hx
      clear hq
      go_wp2_with fail
      clear hxb
      generalize hz0 : x ^^^ b0.toNat = z0 at *
      have HZ := Lib.hid hz0
      clear hz0
      go_loop [0, 17] (fun q j => ∃ (z : Nat) (jj : Nat), j = .int .i64 (jj : Int) ∧ q = .int .u32 (z : Int) ∧ z < 4294967296 ∧ jj ≤ 8 ∧ Hid (crcN (8 - jj) z = crcN 8 z0)) (fun _ j => 8 - (intOf j).toNat)
      case atStart => exact ⟨z0, 0, rfl, rfl, hx0, by omega, rfl⟩
      case round =>
        obtain ⟨z, jj, rfl, rfl, hz, hj, hcz⟩ := hrel
        by_cases hlt2 : jj < 8
        · have hs := crcS_val z hz
          have hsl := crcS_lt hz
          go_wp2_with fail
          clear hs
          go_round
          case rel =>
            refine ⟨crcS z, jj + 1, by go_num, rfl, hsl, by omega, ?_⟩
            show _ = _
            rw [← hcz.out, show 8 - jj = (8 - (jj + 1)) + 1 by omega]; rfl
          case measure => simp [intOf]; omega
        · have h8 : jj = 8 := by omega
          subst h8
          go_wp2_with fail
          go_round
          case rel =>
            refine ⟨k + 1, z, by go_num, rfl, hz, by omega, ?_⟩
            show _ = _
            rw [HQ.out, addC_append, hH.out]
            show crcN 8 (x ^^^ b0.toNat) = z
            rw [HZ.out, ← hcz.out]; rfl
          case measure => simp [intOf]; omega
    · go_wp2_with fail
      go_ret
      have hk' : k = l.length := by have := HL.out; omega
      rw [hk', List.take_of_length_le (Nat.le_refl _)] at hH
      rw [hH.out]
      exact ⟨rfl, rfl⟩
end Go.Proofs.Ytnjmekjaingniaa

/-
  The walks of sum: Parts (of one text), Of, Seal, Open.
-/
namespace Go.Proofs.Ytnjmekjaingniaa
open Go.RowKit
set_option linter.unusedVariables false

def sumC (l : List UInt8) : Nat := 4294967295 - addC 4294967295 l
def sumB (n : Nat) : List UInt8 := [UInt8.ofNat n, UInt8.ofNat (n / 256), UInt8.ofNat (n / 65536), UInt8.ofNat (n / 16777216)]
def sealB (l : List UInt8) : List UInt8 := l ++ sumB (sumC l)
theorem sumC_lt (l : List UInt8) : sumC l < 4294967296 := by unfold sumC; omega
theorem sumB_len (n : Nat) : (sumB n).length = 4 := rfl
theorem sealB_len (l : List UInt8) : (sealB l).length = l.length + 4 := by simp [sealB, sumB_len]

theorem u32_not (x : Nat) (hx : x < 4294967296) : bits .xor .u32 IntKind.u32.max (x : Int) = ((4294967295 - x : Nat) : Int) := by
  rw [show IntKind.u32.max = ((4294967295 : Nat) : Int) by decide, u32_xor_nat _ _ (by decide) hx, Nat.xor_comm]
  congr 1
  have h := congrArg BitVec.toNat (BitVec.xor_allOnes (x := BitVec.ofNat 32 x))
  rw [BitVec.toNat_xor, BitVec.toNat_allOnes, BitVec.toNat_not, BitVec.toNat_ofNat, Nat.mod_eq_of_lt (by simpa using hx)] at h
  simpa using h
set_option maxRecDepth 100000 in
set_option maxHeartbeats 1600000 in
theorem parts1_any (g : Nat) (A : Option Addr) (n c : Nat) (l : List UInt8) (w : World) (hc : w.cell? ⟨g, 0, none⟩ = some (.slice A n c)) (hr : Rd w w.heap.size 1 A n (bvs l)) (hn : n ≤ 9223372036854775807) :
    Calls Try.prog 88 #[.slice (some ⟨g, 0, none⟩) 1 1] w fun e w' => e = .returned (.int .u32 (sumC l : Int)) ∧ w = w' := by
  have hl := addC_lt l (n := 4294967295) (by decide)
  have hv : sumC l = 4294967295 - addC 4294967295 l := rfl
  have HV := Lib.hid hv
  clear hv
  go_enter Try.func88, Try.ntmps88
  go_wp2_with fail
  go_loop [3, 8] (fun q i => ∃ (k : Nat) (x : Nat), i = .int .i64 (k : Int) ∧ q = .int .u32 (x : Int) ∧ k ≤ 1 ∧ Hid (k = 0 → x = 4294967295) ∧ Hid (k = 1 → x = addC 4294967295 l)) (fun _ i => 1 - (intOf i).toNat)
  case atStart => exact ⟨0, 4294967295, rfl, rfl, by omega, fun _ => rfl, fun h => by omega⟩
  case round =>
    obtain ⟨k, x, rfl, rfl, hk, h0, h1⟩ := hrel
    by_cases hk0 : k = 0
    · have hx := h0.out hk0
      subst hk0
      subst hx
      clear h0 h1
      go_wp2_with fail
      refine (add_any A n c l 4294967295 w hr hn (by decide)).mono ?_
      rintro e w1 ⟨rfl, rfl⟩
      go_wp2_with fail
      go_round
      case rel => exact ⟨1, addC 4294967295 l, rfl, rfl, by omega, fun h => by omega, fun _ => rfl⟩
      case measure => simp [intOf]
    · have hk1 : k = 1 := by omega
      have hx := h1.out hk1
      subst hk1
      clear h0 h1 hk0
      generalize addC 4294967295 l = y at *
      subst hx
      go_wp2_with fail
      go_ret
      rw [HV.out, u32_not x hl]
      exact ⟨rfl, rfl⟩
set_option maxRecDepth 100000 in
set_option maxHeartbeats 1600000 in
theorem of_any (A : Option Addr) (n c : Nat) (l : List UInt8) (w : World) (hr : Rd w w.heap.size 1 A n (bvs l)) (hn : n ≤ 9223372036854775807) :
    Calls Try.prog 81 #[.slice A n c] w fun e w' => e = .returned (.int .u32 (sumC l : Int)) ∧ Up w w' := by
  go_enter Try.func81, Try.ntmps81
  go_wp2_with fail
  refine (parts1_any w.heap.size A n c l _ (by rw [World.cell?_alloc_at (w := w) _ _ _ _ rfl]; rfl) (hr.up ((Up.refl w).alloc _)) hn).mono ?_
  rintro e w1 ⟨rfl, rfl⟩
  go_wp2_with fail
  go_ret
  exact ⟨rfl, (Up.refl w).alloc _⟩

set_option maxRecDepth 100000 in
set_option maxHeartbeats 1600000 in
theorem seal_any (A : Option Addr) (n c : Nat) (l : List UInt8) (w : World) (hr : Rd w w.heap.size 1 A n (bvs l)) (hn : n ≤ 1099511627776) :
    Calls Try.prog 58 #[.slice A n c] w fun e w' => ∃ A' c', e = .returned (.slice A' (n + 4) c') ∧ OwnB w' w.heap.size A' (n + 4) c' (sealB l) ∧ Up w w' := by
  have hs := sumC_lt l
  have hv : sealB l = l ++ sumB (sumC l) := rfl
  have HV := Lib.hid hv
  clear hv
  go_enter Try.func58, Try.ntmps58
  go_wp2_with fail
  refine (of_any A n c l w hr (by omega)).mono ?_
  rintro e w1 ⟨rfl, hu1⟩
  generalize sumC l = y at *
  have hnil : OwnB w1 w.heap.size none 0 0 [] := World.ownsRow_nil _ _ _ _
  have hr1 := hr.up hu1
  have hb : ([.int .u8 ((y : Int) % 256), .int .u8 ((y : Int) / 256 % 256), .int .u8 ((y : Int) / 65536 % 256), .int .u8 ((y : Int) / 16777216)] : List Value) = bvs (sumB y) := by
    have e1 : (y : Int) % 256 = ((y % 256 : Nat) : Int) := by omega
    have e2 : (y : Int) / 256 % 256 = ((y / 256 % 256 : Nat) : Int) := by omega
    have e3 : (y : Int) / 65536 % 256 = ((y / 65536 % 256 : Nat) : Int) := by omega
    have e4 : (y : Int) / 16777216 = ((y / 16777216 % 256 : Nat) : Int) := by omega
    simp only [bvs, sumB, List.map_cons, List.map_nil, bv_ofNat, e1, e2, e3, e4]
  have HB := Lib.hid hb
  clear hb
  go_wp2_with (first
    | (at_builtin; refine wpList_append_rd _ bytesT hnil hr1 (bvs_one _) (by omega) (by omega) (by have := hu1.size; omega) rfl rfl rfl rfl ?_; intro v2 w2 hown2 hg2 hat2; obtain ⟨A2, c2, rfl⟩ := own_form hown2; simp only [Nat.zero_add] at hown2; rw [show bvs [] ++ bvs l = bvs l from rfl] at hown2)
    | (at_builtin; refine wpList_append_rd _ bytesT (World.ownsRow.alloc hown2 _) (Rd.lit_at _ (sumB y) _ _ rfl HB.out) (bvs_one _) (by simp [sumB_len]; omega) (by simp [sumB_len]; omega) (by simp; have := hu1.size; have := hg2.size; omega) rfl rfl rfl rfl ?_; intro v3 w3 hown3 hg3 hat3; obtain ⟨A3, c3, rfl⟩ := own_form hown3))
  go_ret
  rw [sumB_len, ← bvs_append] at hown3
  refine ⟨A3, c3, rfl, ?_, ?_⟩
  · rw [HV.out]; exact hown3
  · exact ((hu1.grown hg2 (fun g hg => by simp [Value.ownBlock] at hg)).alloc _).grown hg3 (fun g hg => (hown2.lt g hg).1)
end Go.Proofs.Ytnjmekjaingniaa

/-
  A law for regions that draw their order of evaluation: each operation is looked at once, whatever the order. No program is named here.
-/
namespace Go.Proofs.Ytnjmekjaingniaa.Rg
open Go Go.CheckFast Go.RowKit
set_option linter.unusedVariables false

/-! ### Which operation comes before which in every order -/
inductive Pre (ops : Array Oper) : Nat → Nat → Prop
  | edge {i : Nat} {o : Oper} {e : Edge} : ops[i]? = some o → e ∈ o.after → Region.binds .any e = true → Pre ops e.on i
  | more {i p : Nat} {o : Oper} {e : Edge} : ops[i]? = some o → e ∈ o.after → Region.binds .any e = true → Pre ops p e.on → Pre ops p i

def masks : List Oper → List Nat → List Nat
  | [], acc => acc
  | o :: rest, acc => force (one (fun i => acc.getD i 0) o) fun v => masks rest (acc ++ [v])
def maskOf (ops : Array Oper) (i p : Nat) : Bool := ((masks ops.toList []).getD i 0).testBit p

theorem one_bit (look : Nat → Nat) (p : Nat) : ∀ (l : List Edge) (s : Nat), (l.foldl (fun s e => if Region.binds .any e then s ||| 2 ^ e.on ||| look e.on else s) s).testBit p = true →
    s.testBit p = true ∨ ∃ e ∈ l, Region.binds .any e = true ∧ (e.on = p ∨ (look e.on).testBit p = true)
  | [], s, h => .inl h
  | e :: l, s, h => by
    rw [List.foldl_cons] at h
    rcases one_bit look p l _ h with h | ⟨e', he', h'⟩
    · split at h
      · rename_i hb
        rw [Nat.testBit_or, Nat.testBit_or, Bool.or_eq_true, Bool.or_eq_true] at h
        rcases h with (h | h) | h
        · exact .inl h
        · rw [Nat.testBit_two_pow] at h
          exact .inr ⟨e, List.mem_cons_self, hb, .inl (by simpa using h)⟩
        · exact .inr ⟨e, List.mem_cons_self, hb, .inr h⟩
      · exact .inl h
    · exact .inr ⟨e', List.mem_cons_of_mem _ he', h'⟩

theorem masks_pre {ops : Array Oper} : ∀ (rest : List Oper) (acc : List Nat), ops.toList.drop acc.length = rest → (∀ i p, (acc.getD i 0).testBit p = true → Pre ops p i) →
    ∀ i p, ((masks rest acc).getD i 0).testBit p = true → Pre ops p i
  | [], acc, _, h => h
  | o :: rest, acc, hr, h => by
    rw [masks, force_eq]
    have hlt : acc.length < ops.toList.length := by
      rcases Nat.lt_or_ge acc.length ops.toList.length with h' | h'
      · exact h'
      · rw [List.drop_eq_nil_of_le h'] at hr; cases hr
    have ho : ops.toList[acc.length]? = some o := by
      have := congrArg List.head? hr
      rwa [List.head?_drop, List.head?_cons] at this
    refine masks_pre rest _ ?_ ?_
    · rw [List.length_append, List.length_singleton, ← List.drop_drop, hr]; rfl
    · intro i p hb
      rw [List.getD_eq_getElem?_getD, List.getElem?_append] at hb
      split at hb
      · exact h i p (by rw [List.getD_eq_getElem?_getD]; exact hb)
      · rename_i hge
        by_cases he : i = acc.length
        · subst he
          rw [Nat.sub_self] at hb
          have hb' : (one (fun i => acc.getD i 0) o).testBit p = true := hb
          unfold one at hb'
          rw [← Array.foldl_toList] at hb'
          rcases one_bit (fun i => acc.getD i 0) p o.after.toList 0 hb' with h0 | ⟨e, hm, hbd, hp⟩
          · simp at h0
          · have hm' : e ∈ o.after := by simpa using hm
            have ho' : ops[acc.length]? = some o := by simpa using ho
            rcases hp with rfl | hp
            · exact .edge ho' hm' hbd
            · exact .more ho' hm' hbd (h _ _ hp)
        · have : ([one (fun i => acc.getD i 0) o] : List Nat)[i - acc.length]? = none := by
            apply List.getElem?_eq_none; simp; omega
          rw [this] at hb; simp at hb

theorem pre_of {ops : Array Oper} {i p : Nat} (h : maskOf ops i p = true) : Pre ops p i :=
  masks_pre ops.toList [] rfl (fun i p h => by simp at h) i p h

/-! ### What is known of the operations that have come up -/
abbrev Vs := Nat → Value
def upd (vs : Vs) (k : Nat) (v : Value) : Vs := fun i => bif Nat.beq i k then v else vs i
theorem upd_same (vs : Vs) (k : Nat) (v : Value) : upd vs k v k = v := by simp [upd]
theorem upd_ne (vs : Vs) {k i : Nat} (v : Value) (h : i ≠ k) : upd vs k v i = vs i := by
  unfold upd
  cases h' : Nat.beq i k
  · rfl
  · exact absurd (Nat.eq_of_beq_eq_true h') h

/-- w' is w with new blocks, and blocks of X written. -/
structure Keeps (X : Nat → Prop) (w w' : World) : Prop where
  os : w'.os = w.os
  tape : w'.tape = w.tape
  output : w'.output = w.output
  size : w.heap.size ≤ w'.heap.size
  block : ∀ k, k < w.heap.size → ¬ X k → w'.heap[k]? = w.heap[k]?
theorem Keeps.refl (X : Nat → Prop) (w : World) : Keeps X w w := ⟨rfl, rfl, rfl, Nat.le_refl _, fun _ _ _ => rfl⟩
theorem Keeps.up {w w' : World} (h : Keeps (fun _ => False) w w') : Below w.heap.size w w' := ⟨h.os, h.tape, h.output, h.size, fun k hk => h.block k hk id⟩
theorem Keeps.of_up {X : Nat → Prop} {w w' : World} (h : Below w.heap.size w w') : Keeps X w w' := ⟨h.os, h.tape, h.output, h.size, fun k hk _ => h.block k hk⟩

/-- the blocks of Y are as they were -/
structure Sta (Y : Nat → Prop) (w w' : World) : Prop where
  size : w.heap.size ≤ w'.heap.size
  block : ∀ g, g < w.heap.size → Y g → w'.heap[g]? = w.heap[g]?

structure Shape where
  idx : Nat
  uses : List Nat
  eats : List Nat
structure Ent where
  idx : Nat
  F : Vs → World → Prop
  own : Vs → Nat → Prop

def Fof : List Ent → Nat → Vs → World → Prop
  | [], _, _, _ => True
  | e :: r, p, vs, w => bif Nat.beq e.idx p then e.F vs w else Fof r p vs w
def Oof : List Ent → Nat → Vs → Nat → Prop
  | [], _, _, _ => False
  | e :: r, p, vs, g => bif Nat.beq e.idx p then e.own vs g else Oof r p vs g

/-- what one operation does at this frame and world: its value and the world behind it meet R -/
def Runs (P : Program) (ops : Array Oper) (o : Oper) (a : Act) (w : World) (R : Value → World → Prop) : Prop :=
  ∀ K : Act → World → Prop, (∀ v w', R v w' → K (a.put o.dst v) w') →
    if Region.wanted o (yielded ops a.tmps) = true then o.wp P a w K (fun _ _ _ => False) else K (a.put o.dst undef) w

def chk (ops : Array Oper) (sh : List Shape) (k : Nat) (uses eats : List Nat) : Bool :=
  uses.all (fun p => (Nat.ble ops.size p || maskOf ops k p) && sh.all fun s => !s.eats.contains p) &&
  eats.all (fun p => uses.contains p && sh.all fun s => !s.uses.contains p || maskOf ops k s.idx)

section
variable (P : Program) (ops : Array Oper) (Q : Exit → Act → World → Prop) (X0 : Nat → Prop) (w0 : World) (S : World → Prop)

inductive ROK : List Oper → Nat → List Shape → List Ent → (Vs → Act) → Prop
  | done {k : Nat} {sh : List Shape} {Γ : List Ent} {b : Vs → Act}
      (h : ∀ vs w, Keeps X0 w0 w → S w → (∀ p, (sh.all fun s => !s.eats.contains p) = true → Fof Γ p vs w) → Q .normal (b vs) w) : ROK [] k sh Γ b
  | val {o : Oper} {rest : List Oper} {k : Nat} {sh : List Shape} {Γ : List Ent} {b : Vs → Act} (v : Value) (uses : List Nat) (hc : chk ops sh k uses [] = true)
      (h : ∀ vs w, Keeps X0 w0 w → S w → (∀ p ∈ uses, Fof Γ p vs w) → Runs P ops o (b vs) w fun v' w' => v' = v ∧ Keeps (fun _ => False) w w')
      (hr : ROK rest (k + 1) (sh ++ [⟨k, uses, []⟩]) Γ (fun vs => (b vs).put o.dst v)) : ROK (o :: rest) k sh Γ b
  | op {o : Oper} {rest : List Oper} {k : Nat} {sh : List Shape} {Γ : List Ent} {b : Vs → Act} (F : Vs → World → Prop) (own : Vs → Nat → Prop) (uses eats : List Nat) (hc : chk ops sh k uses eats = true)
      (hd : ∀ vs vs' : Vs, (∀ i, i = k ∨ maskOf ops k i = true → vs i = vs' i) → F vs = F vs' ∧ own vs = own vs')
      (hs : ∀ vs w w', F vs w → Sta (fun g => (g < w0.heap.size ∧ ¬ X0 g) ∨ own vs g) w w' → F vs w')
      (h : ∀ vs w, Keeps X0 w0 w → S w → (∀ p ∈ uses, Fof Γ p vs w) → Runs P ops o (b vs) w fun v w' =>
        F (upd vs k v) w' ∧ Keeps (fun g => ∃ p ∈ eats, Oof Γ p vs g) w w' ∧ ∀ g, own (upd vs k v) g → g < w'.heap.size ∧ (w.heap.size ≤ g ∨ ∃ p ∈ eats, Oof Γ p vs g))
      (hr : ROK rest (k + 1) (sh ++ [⟨k, uses, eats⟩]) (Γ ++ [⟨k, F, own⟩]) (fun vs => (b vs).put o.dst (vs k))) : ROK (o :: rest) k sh Γ b
end

/-! ### The data behind a proof of ROK -/
inductive OpD where
  | cl (v : Value) (uses : List Nat)
  | opn (F : Vs → World → Prop) (own : Vs → Nat → Prop) (uses eats : List Nat)
def OpD.val : OpD → Nat → Vs → Value
  | .cl v _, _, _ => v
  | .opn _ _ _ _, k, vs => vs k
def OpD.uses : OpD → List Nat
  | .cl _ u => u
  | .opn _ _ u _ => u
def OpD.eats : OpD → List Nat
  | .cl _ _ => []
  | .opn _ _ _ e => e
def OpD.sh (d : OpD) (k : Nat) : Shape := ⟨k, d.uses, d.eats⟩
def OpD.F : OpD → Vs → World → Prop
  | .cl _ _, _, _ => True
  | .opn F _ _ _, vs, w => F vs w
def OpD.own : OpD → Vs → Nat → Prop
  | .cl _ _, _, _ => False
  | .opn _ o _ _, vs, g => o vs g


def ents : List OpD → Nat → List Ent
  | [], _ => []
  | .cl _ _ :: r, k => ents r (k + 1)
  | .opn F own _ _ :: r, k => ⟨k, F, own⟩ :: ents r (k + 1)
def shs : List OpD → Nat → List Shape
  | [], _ => []
  | d :: r, k => d.sh k :: shs r (k + 1)
def dstOf (ops : Array Oper) (k : Nat) : Option Tmp := (ops[k]?).bind (·.dst)
def bGo (ops : Array Oper) (vs : Vs) : List OpD → Nat → Act → Act
  | [], _, a => a
  | d :: r, k, a => bGo ops vs r (k + 1) (a.put (dstOf ops k) (d.val k vs))

theorem ents_append : ∀ (D : List OpD) (E : List OpD) (k : Nat), ents (D ++ E) k = ents D k ++ ents E (k + D.length)
  | [], _, _ => rfl
  | .cl _ _ :: r, E, k => by simp only [List.cons_append, ents, ents_append r E (k + 1), List.length_cons]; rw [Nat.add_right_comm k 1, Nat.add_assoc k]
  | .opn _ _ _ _ :: r, E, k => by simp only [List.cons_append, ents, ents_append r E (k + 1), List.length_cons]; rw [Nat.add_right_comm k 1, Nat.add_assoc k]
theorem shs_append : ∀ (D : List OpD) (E : List OpD) (k : Nat), shs (D ++ E) k = shs D k ++ shs E (k + D.length)
  | [], _, _ => rfl
  | d :: r, E, k => by simp only [List.cons_append, shs, shs_append r E (k + 1), List.length_cons]; rw [Nat.add_right_comm k 1, Nat.add_assoc k]
theorem bGo_append (ops : Array Oper) (vs : Vs) : ∀ (D : List OpD) (E : List OpD) (k : Nat) (a : Act), bGo ops vs (D ++ E) k a = bGo ops vs E (k + D.length) (bGo ops vs D k a)
  | [], _, _, _ => rfl
  | d :: r, E, k, a => by simp only [List.cons_append, bGo, bGo_append ops vs r E (k + 1), List.length_cons]; rw [Nat.add_right_comm k 1, Nat.add_assoc k]

theorem put_size (a : Act) (d : Option Tmp) (v : Value) : (a.put d v).tmps.size = a.tmps.size := by cases d <;> simp [Act.put]
theorem put_defers (a : Act) (d : Option Tmp) (v : Value) : (a.put d v).defers = a.defers := by cases d <;> rfl
theorem put_at (a : Act) (t : Tmp) (v : Value) (h : t < a.tmps.size) : (a.put (some t) v).tmps[t]? = some v := by simp [Act.put, h]
theorem put_other (a : Act) (d : Option Tmp) (t : Tmp) (v : Value) (h : d ≠ some t) : (a.put d v).tmps[t]? = a.tmps[t]? := by
  cases d with
  | none => rfl
  | some e => exact Array.getElem?_setIfInBounds_ne (fun he => h (by rw [he]))
theorem bGo_size (ops : Array Oper) (vs : Vs) : ∀ (D : List OpD) (k : Nat) (a : Act), (bGo ops vs D k a).tmps.size = a.tmps.size
  | [], _, _ => rfl
  | d :: r, k, a => by rw [bGo, bGo_size ops vs r, put_size]
theorem bGo_defers (ops : Array Oper) (vs : Vs) : ∀ (D : List OpD) (k : Nat) (a : Act), (bGo ops vs D k a).defers = a.defers
  | [], _, _ => rfl
  | d :: r, k, a => by rw [bGo, bGo_defers ops vs r, put_defers]
theorem bGo_other (ops : Array Oper) (vs : Vs) (t : Tmp) : ∀ (D : List OpD) (k : Nat) (a : Act), (∀ i, k ≤ i → i < k + D.length → dstOf ops i ≠ some t) → (bGo ops vs D k a).tmps[t]? = a.tmps[t]?
  | [], _, _, _ => rfl
  | d :: r, k, a, h => by
    rw [bGo, bGo_other ops vs t r _ _ (fun i h1 h2 => h i (by omega) (by simp only [List.length_cons]; omega)), put_other _ _ _ _ (h k (Nat.le_refl _) (by simp))]
theorem bGo_at (ops : Array Oper) (vs : Vs) (hdist : ∀ i j t, dstOf ops i = some t → dstOf ops j = some t → i = j) (t : Tmp) (i : Nat) (hi : dstOf ops i = some t) (d : OpD) : ∀ (D : List OpD) (k : Nat) (a : Act), k ≤ i → D[i - k]? = some d → t < a.tmps.size → (bGo ops vs D k a).tmps[t]? = some (d.val i vs)
  | [], k, a, _, h, _ => by simp at h
  | d' :: r, k, a, hk, h, ht => by
    rw [bGo]
    by_cases he : i = k
    · subst he
      rw [Nat.sub_self] at h
      obtain rfl : d' = d := by simpa using h
      rw [bGo_other ops vs t r _ _ (fun j h1 _ hj => by have := hdist _ _ _ hi hj; omega), hi]
      exact put_at _ _ _ ht
    · refine bGo_at ops vs hdist t i hi d r (k + 1) _ (by omega) ?_ (by rw [put_size]; exact ht)
      rw [show i - k = (i - (k + 1)) + 1 by omega] at h
      simpa using h

theorem Fof_append (p : Nat) (vs : Vs) (w : World) : ∀ (Γ Δ : List Ent), Fof (Γ ++ Δ) p vs w → Fof Γ p vs w
  | [], _, _ => trivial
  | e :: r, Δ, h => by
    simp only [List.cons_append, Fof] at h ⊢
    cases hb : Nat.beq e.idx p <;> simp only [hb, cond_true, cond_false] at h ⊢
    · exact Fof_append p vs w r Δ h
    · exact h
theorem Oof_append (p : Nat) (vs : Vs) (g : Nat) : ∀ (Γ Δ : List Ent), Oof Γ p vs g → Oof (Γ ++ Δ) p vs g
  | [], _, h => h.elim
  | e :: r, Δ, h => by
    simp only [List.cons_append, Oof] at h ⊢
    cases hb : Nat.beq e.idx p <;> simp only [hb, cond_true, cond_false] at h ⊢
    · exact Oof_append p vs g r Δ h
    · exact h
theorem Fof_ents (vs : Vs) (w : World) (p : Nat) : ∀ (D : List OpD) (k : Nat), k ≤ p → (Fof (ents D k) p vs w ↔ ∀ d, D[p - k]? = some d → d.F vs w)
  | [], k, _ => by simp [ents, Fof]
  | d :: r, k, hk => by
    by_cases he : p = k
    · subst he
      cases d with
      | cl v u =>
        rw [ents]
        simp only [Nat.sub_self, List.getElem?_cons_zero, Option.some.injEq, forall_eq', OpD.F, iff_true]
        have : ∀ (D : List OpD) (j : Nat), p < j → Fof (ents D j) p vs w := by
          intro D
          induction D with
          | nil => intro j _; trivial
          | cons d r ih =>
            intro j hj
            cases d with
            | cl v u => exact ih _ (by omega)
            | opn F own u e =>
              show (bif Nat.beq j p then F vs w else Fof (ents r (j + 1)) p vs w)
              cases hb : Nat.beq j p
              · exact ih _ (by omega)
              · have := Nat.eq_of_beq_eq_true hb; omega
        exact this r (p + 1) (by omega)
      | opn F own u e =>
        simp [ents, Fof, OpD.F]
    · have hrec := Fof_ents vs w p r (k + 1) (by omega)
      rw [show p - k = (p - (k + 1)) + 1 by omega, List.getElem?_cons_succ, ← hrec]
      cases d with
      | cl v u => rfl
      | opn F own u e =>
        show (bif Nat.beq k p then F vs w else Fof (ents r (k + 1)) p vs w) ↔ _
        cases hb : Nat.beq k p
        · rfl
        · exact absurd (Nat.eq_of_beq_eq_true hb).symm he
theorem Oof_ents (vs : Vs) (g : Nat) (p : Nat) : ∀ (D : List OpD) (k : Nat), k ≤ p → (Oof (ents D k) p vs g ↔ ∃ d, D[p - k]? = some d ∧ d.own vs g)
  | [], k, _ => by simp [ents, Oof]
  | d :: r, k, hk => by
    by_cases he : p = k
    · subst he
      cases d with
      | cl v u =>
        rw [ents]
        simp only [Nat.sub_self, List.getElem?_cons_zero, Option.some.injEq, OpD.own, exists_eq_left', iff_false]
        have : ∀ (D : List OpD) (j : Nat), p < j → ¬ Oof (ents D j) p vs g := by
          intro D
          induction D with
          | nil => intro j _ h; exact h
          | cons d r ih =>
            intro j hj
            cases d with
            | cl v u => exact ih _ (by omega)
            | opn F own u e =>
              show ¬ (bif Nat.beq j p then own vs g else Oof (ents r (j + 1)) p vs g)
              cases hb : Nat.beq j p
              · exact ih _ (by omega)
              · have := Nat.eq_of_beq_eq_true hb; omega
        exact this r (p + 1) (by omega)
      | opn F own u e =>
        simp [ents, Oof, OpD.own]
    · have hrec := Oof_ents vs g p r (k + 1) (by omega)
      rw [show p - k = (p - (k + 1)) + 1 by omega, List.getElem?_cons_succ, ← hrec]
      cases d with
      | cl v u => rfl
      | opn F own u e =>
        show (bif Nat.beq k p then own vs g else Oof (ents r (k + 1)) p vs g) ↔ _
        cases hb : Nat.beq k p
        · rfl
        · exact absurd (Nat.eq_of_beq_eq_true hb).symm he

/-! ### The frame's places that an operation looks at -/
def lookChk (ops : Array Oper) : Bool :=
  (List.range ops.size).all fun i => match ops[i]? with
    | none => true
    | some o => (o.looksAt ops).all fun t => (List.range ops.size).all fun j => !(dstOf ops j == some t) || Nat.beq j i || (Nat.blt j i && maskOf ops i j) || (Nat.blt i j && maskOf ops j i)
def distChk (ops : Array Oper) : Bool :=
  (List.range ops.size).all fun i => (List.range ops.size).all fun j => Nat.beq i j || (match dstOf ops i with | none => true | some t => !(dstOf ops j == some t))
def topoChk (ops : Array Oper) : Bool :=
  (List.range ops.size).all fun i => match ops[i]? with
    | none => true
    | some o => o.after.all fun e => !Region.binds .any e || Nat.blt e.on i
def globChk (ops : Array Oper) : Bool := Region.noSelect ops && lookChk ops && distChk ops && topoChk ops
theorem topo_of {ops : Array Oper} (h : topoChk ops = true) {i : Nat} {o : Oper} (ho : ops[i]? = some o) {e : Edge} (he : e ∈ o.after) (hb : Region.binds .any e = true) : e.on < i := by
  have h1 := List.all_eq_true.1 h i (List.mem_range.2 (Array.getElem?_eq_some_iff.1 ho).1)
  rw [ho] at h1
  have h2 := Array.all_eq_true_iff_forall_mem.1 h1 e he
  simp only [hb, Bool.not_true, Bool.false_or] at h2
  rw [Nat.blt_eq] at h2; exact h2
theorem all_listed {ops : Array Oper} (h : topoChk ops = true) {listed : Array Bool} (hs : listed.size = ops.size) (hr : Region.ready .any ops listed = []) : ∀ i, i < ops.size → listed.getD i false = true := by
  intro i
  induction i using Nat.strongRecOn with
  | _ i ih =>
    intro hi
    cases hl : listed.getD i false
    · exfalso
      have hlt : i < listed.size := by omega
      obtain ⟨o, ho⟩ : ∃ o, ops[i]? = some o := ⟨_, Array.getElem?_eq_getElem hi⟩
      have : i ∈ Region.ready .any ops listed := mem_ready.2 ⟨by simpa [hlt] using hl, o, ho, fun e he hb => by
        have := topo_of h ho he hb
        exact ih _ this (by omega)⟩
      rw [hr] at this; cases this
    · rfl

theorem dstOf_lt {ops : Array Oper} {i : Nat} {t : Tmp} (h : dstOf ops i = some t) : i < ops.size := by
  unfold dstOf at h
  rcases Nat.lt_or_ge i ops.size with h' | h'
  · exact h'
  · rw [Array.getElem?_eq_none h'] at h; cases h
theorem dist_of {ops : Array Oper} (h : distChk ops = true) (i j : Nat) (t : Tmp) (hi : dstOf ops i = some t) (hj : dstOf ops j = some t) : i = j := by
  have h1 := List.all_eq_true.1 (List.all_eq_true.1 h i (List.mem_range.2 (dstOf_lt hi))) j (List.mem_range.2 (dstOf_lt hj))
  rw [hi, hj] at h1
  simpa using h1
theorem look_of {ops : Array Oper} (h : lookChk ops = true) {i : Nat} {o : Oper} (ho : ops[i]? = some o) {t : Tmp} (ht : t ∈ o.looksAt ops) {j : Nat} (hj : dstOf ops j = some t) :
    j = i ∨ (j < i ∧ Pre ops j i) ∨ (i < j ∧ Pre ops i j) := by
  have h1 := List.all_eq_true.1 h i (List.mem_range.2 (Array.getElem?_eq_some_iff.1 ho).1)
  rw [ho] at h1
  have h2 := List.all_eq_true.1 (List.all_eq_true.1 h1 t ht) j (List.mem_range.2 (dstOf_lt hj))
  rw [hj] at h2
  simp only [BEq.rfl, Bool.not_true, Bool.false_or, Bool.or_eq_true, Bool.and_eq_true] at h2
  rcases h2 with (h2 | ⟨h2, h3⟩) | ⟨h2, h3⟩
  · exact .inl (Nat.eq_of_beq_eq_true h2)
  · exact .inr (.inl ⟨(by rw [Nat.blt_eq] at h2; exact h2), pre_of h3⟩)
  · exact .inr (.inr ⟨(by rw [Nat.blt_eq] at h2; exact h2), pre_of h3⟩)

/-! ### One operation at another frame that agrees with the first on what it looks at -/
theorem wp_false {P : Program} {o : Oper} {a : Act} {w : World} {K : Act → World → Prop} {Q : Exit → Act → World → Prop} (h : o.wp P a w K (fun _ _ _ => False)) : o.wp P a w K Q := by
  unfold Oper.wp at *
  generalize (execOp a.eval o).run P w = r at *
  cases r with
  | ok n w' =>
    cases n <;> simp only [Oper.upon] at h ⊢ <;> first
      | exact h
      | exact Calls.mono h (fun e w'' he => by
          cases e with
          | returned v => exact he
          | panicked c => exact he.elim
          | outgrown => obtain ⟨_, _, h⟩ := he; exact h.elim)
  | halt x w' => cases x <;> simp only [Oper.upon] at h ⊢

theorem put_same {a b : Act} (hs : a.tmps.size = b.tmps.size) {d : Option Tmp} {v u : Value} (h : b.put d v = b.put d u) : a.put d v = a.put d u := by
  cases d with
  | none => rfl
  | some t =>
    by_cases ht : t < a.tmps.size
    · have ht' : t < b.tmps.size := by rw [← hs]; exact ht
      have e1 := put_at b t v ht'
      rw [h, put_at b t u ht'] at e1
      injection e1 with e1
      rw [e1]
    · have h0 : ∀ x : Value, a.tmps.setIfInBounds t x = a.tmps := fun x => by rw [Array.setIfInBounds]; simp [ht]
      simp only [Act.put, h0]

theorem wp_move {P : Program} {o : Oper} {a b : Act} {w : World} {R : Value → World → Prop} (hs : a.tmps.size = b.tmps.size) (he : execOp a.eval o = execOp b.eval o)
    (h : o.wp P b w (fun a' w' => ∃ v, a' = b.put o.dst v ∧ R v w') (fun _ _ _ => False)) : o.wp P a w (fun a' w' => ∃ v, a' = a.put o.dst v ∧ R v w') (fun _ _ _ => False) := by
  unfold Oper.wp at *
  rw [he]
  generalize (execOp b.eval o).run P w = r at *
  cases r with
  | ok n w' =>
    cases n <;> simp only [Oper.upon] at h ⊢
    case value v => obtain ⟨u, hu, hR⟩ := h; exact ⟨u, put_same hs hu, hR⟩
    case skip => obtain ⟨u, hu, hR⟩ := h; exact ⟨u, put_same hs hu, hR⟩
    case defer d =>
      obtain ⟨u, hu, hR⟩ := h
      exfalso
      have h1 := congrArg (fun a : Act => a.defers.length) hu
      simp [put_defers] at h1
    case enter f args =>
      refine Calls.mono h fun e w'' he => ?_
      cases e with
      | returned v => obtain ⟨u, hu, hR⟩ := he; exact ⟨u, put_same hs hu, hR⟩
      | panicked c => exact he
      | outgrown => obtain ⟨_, _, h⟩ := he; exact h.elim
    case row row args => exact Rows.mono h fun v w'' ⟨u, hu, hR⟩ => ⟨u, put_same hs hu, hR⟩
  | halt x w' => cases x <;> simp only [Oper.upon] at h ⊢

theorem eval_agree {a b : Act} {x : Operand} (h : ∀ t, x = .tmp t → a.tmps[t]? = b.tmps[t]?) : a.eval x = b.eval x := by
  cases x with
  | tmp t =>
    have := h t rfl
    simp only [Act.eval, Array.getD_eq_getD_getElem?, this]
  | _ => rfl
theorem exec_agree {ops : Array Oper} {o : Oper} (hs : ∀ cs b, o.op ≠ .select cs b) {a b : Act} (h : ∀ t, t ∈ o.looksAt ops → a.tmps[t]? = b.tmps[t]?) : execOp a.eval o = execOp b.eval o :=
  execOp_congr o hs fun x hx => eval_agree fun t ht => h t (by
    subst ht
    exact List.mem_append_left _ (List.mem_filterMap.2 ⟨.tmp t, by simpa using hx, rfl⟩))
theorem wanted_agree {ops : Array Oper} {o : Oper} {a b : Act} (h : ∀ t, t ∈ o.looksAt ops → a.tmps[t]? = b.tmps[t]?) : Region.wanted o (yielded ops a.tmps) = Region.wanted o (yielded ops b.tmps) := by
  unfold Region.wanted
  cases hg : o.guard with
  | none => rfl
  | some gw =>
    obtain ⟨g, want⟩ := gw
    have hy : yielded ops a.tmps g = yielded ops b.tmps g := by
      unfold yielded
      cases ht : (ops[g]?).bind (·.dst) with
      | none => rfl
      | some t =>
        have := h t (by simp [Oper.looksAt, hg, ht])
        simp only [Option.bind_some, this]
    simp only [hy]

/-! ### The law -/
/-- what is asked of operation k, those before it being D -/
def Asked (P : Program) (ops : Array Oper) (X0 : Nat → Prop) (w0 : World) (S : World → Prop) (a0 : Act) (G0 : Ent) (D : List OpD) (k : Nat) (o : Oper) : OpD → Prop
  | .cl v uses => chk ops (shs D 0) k uses [] = true ∧ ∀ vs w, Keeps X0 w0 w → S w → (∀ p ∈ uses, Fof (G0 :: ents D 0) p vs w) →
      Runs P ops o (bGo ops vs D 0 a0) w fun v' w' => v' = v ∧ Keeps (fun _ => False) w w'
  | .opn F own uses eats => chk ops (shs D 0) k uses eats = true ∧
      (∀ vs vs' : Vs, (∀ i, i = k ∨ maskOf ops k i = true → vs i = vs' i) → F vs = F vs' ∧ own vs = own vs') ∧
      (∀ vs w w', F vs w → Sta (fun g => (g < w0.heap.size ∧ ¬ X0 g) ∨ own vs g) w w' → F vs w') ∧
      ∀ vs w, Keeps X0 w0 w → S w → (∀ p ∈ uses, Fof (G0 :: ents D 0) p vs w) → Runs P ops o (bGo ops vs D 0 a0) w fun v w' =>
        F (upd vs k v) w' ∧ Keeps (fun g => ∃ p ∈ eats, Oof (G0 :: ents D 0) p vs g) w w' ∧ ∀ g, own (upd vs k v) g → g < w'.heap.size ∧ (w.heap.size ≤ g ∨ ∃ p ∈ eats, Oof (G0 :: ents D 0) p vs g)

section
variable {P : Program} {ops : Array Oper} {Q : Exit → Act → World → Prop} {X0 : Nat → Prop} {w0 : World} {S : World → Prop}

theorem ROK.data {a0 : Act} {G0 : Ent} {rest : List Oper} {k : Nat} {sh : List Shape} {Γ : List Ent} {b : Vs → Act} (h : ROK P ops Q X0 w0 S rest k sh Γ b) :
    ∀ D : List OpD, D.length = k → k ≤ ops.size → sh = shs D 0 → Γ = G0 :: ents D 0 → (∀ vs, b vs = bGo ops vs D 0 a0) → ops.toList.drop k = rest →
    ∃ E : List OpD, (D ++ E).length = ops.size ∧ (∀ j o d, E[j]? = some d → ops[k + j]? = some o → Asked P ops X0 w0 S a0 G0 (D ++ E.take j) (k + j) o d) ∧
      ∀ vs w, Keeps X0 w0 w → S w → (∀ p, ((shs (D ++ E) 0).all fun s => !s.eats.contains p) = true → Fof (G0 :: ents (D ++ E) 0) p vs w) → Q .normal (bGo ops vs (D ++ E) 0 a0) w := by
  have go : ∀ (o : Oper) (rest : List Oper) (D : List OpD) (d : OpD) (b : Vs → Act), ops.toList.drop D.length = o :: rest → (∀ vs, b vs = bGo ops vs D 0 a0) → Asked P ops X0 w0 S a0 G0 D D.length o d →
      (∀ D', D' = D ++ [d] → (∀ vs, (b vs).put o.dst (d.val D.length vs) = bGo ops vs D' 0 a0) → D.length + 1 ≤ ops.size → ops.toList.drop (D.length + 1) = rest → ∃ E : List OpD, (D' ++ E).length = ops.size ∧ (∀ j o d, E[j]? = some d → ops[D.length + 1 + j]? = some o → Asked P ops X0 w0 S a0 G0 (D' ++ E.take j) (D.length + 1 + j) o d) ∧
        ∀ vs w, Keeps X0 w0 w → S w → (∀ p, ((shs (D' ++ E) 0).all fun s => !s.eats.contains p) = true → Fof (G0 :: ents (D' ++ E) 0) p vs w) → Q .normal (bGo ops vs (D' ++ E) 0 a0) w) →
      ∃ E : List OpD, (D ++ E).length = ops.size ∧ (∀ j o d, E[j]? = some d → ops[D.length + j]? = some o → Asked P ops X0 w0 S a0 G0 (D ++ E.take j) (D.length + j) o d) ∧
        ∀ vs w, Keeps X0 w0 w → S w → (∀ p, ((shs (D ++ E) 0).all fun s => !s.eats.contains p) = true → Fof (G0 :: ents (D ++ E) 0) p vs w) → Q .normal (bGo ops vs (D ++ E) 0 a0) w := by
    intro o rest D d b hr hb hA ih
    have ho : ops.toList[D.length]? = some o := by
      have := congrArg List.head? hr
      rwa [List.head?_drop, List.head?_cons] at this
    have ho' : ops[D.length]? = some o := by simpa using ho
    obtain ⟨E, h1, h2, h3⟩ := ih _ rfl (fun vs => by
        rw [bGo_append, ← hb, Nat.zero_add]
        show _ = (b vs).put (dstOf ops D.length) _
        rw [dstOf, ho']
        rfl) (Array.getElem?_eq_some_iff.1 ho').1 (by rw [← List.drop_drop, hr]; rfl)
    refine ⟨d :: E, by simpa using h1, fun j o' d' hj hoj => ?_, ?_⟩
    · cases j with
      | zero =>
        obtain rfl : d = d' := by simpa using hj
        rw [Nat.add_zero] at hoj ⊢
        rw [ho'] at hoj
        injection hoj with hoj
        subst hoj
        rw [List.take_zero, List.append_nil]
        exact hA
      | succ j =>
        have := h2 j o' d' (by simpa using hj) (by rw [← hoj]; congr 1; omega)
        rw [List.take_succ_cons]
        rw [show D.length + (j + 1) = D.length + 1 + j by omega]
        rwa [List.append_assoc] at this
    · intro vs w hk hS hF
      have e : D ++ d :: E = D ++ [d] ++ E := by rw [List.append_assoc]; rfl
      rw [e] at hF ⊢
      exact h3 vs w hk hS hF
  induction h with
  | done h =>
    rintro D rfl hkl rfl rfl hb hr
    refine ⟨[], ?_, fun j o d hj => by simp at hj, fun vs w hk hS hF => ?_⟩
    · have h1 : ops.toList.length ≤ D.length := List.drop_eq_nil_iff.1 hr
      rw [Array.length_toList] at h1
      rw [List.append_nil]; omega
    · rw [List.append_nil] at hF ⊢
      rw [← hb]
      exact h vs w hk hS hF
  | @val o rest k sh Γ b v uses hc h hr ih =>
    rintro D rfl hkl rfl rfl hb hrest
    refine go o rest D (.cl v uses) b hrest hb ⟨hc, fun vs w hk hS hF => ?_⟩ ?_
    · rw [← hb]; exact h vs w hk hS hF
    · rintro D' rfl hb' hle hr'
      exact ih (D ++ [OpD.cl v uses]) (by simp) hle (by rw [shs_append, Nat.zero_add]; rfl) (by rw [ents_append]; simp [ents]) (fun vs => hb' vs) hr'
  | @op o rest k sh Γ b F own uses eats hc hd hs h hr ih =>
    rintro D rfl hkl rfl rfl hb hrest
    refine go o rest D (.opn F own uses eats) b hrest hb ⟨hc, hd, hs, fun vs w hk hS hF => ?_⟩ ?_
    · rw [← hb]; exact h vs w hk hS hF
    · rintro D' rfl hb' hle hr'
      exact ih (D ++ [OpD.opn F own uses eats]) (by simp) hle (by rw [shs_append, Nat.zero_add]; rfl) (by rw [ents_append]; simp [ents]) (fun vs => hb' vs) hr'

theorem chk_use {sh : List Shape} {k p : Nat} {uses eats : List Nat} (h : chk ops sh k uses eats = true) (hp : p ∈ uses) : (ops.size ≤ p ∨ Pre ops p k) ∧ ∀ s ∈ sh, p ∉ s.eats := by
  simp only [chk, Bool.and_eq_true, List.all_eq_true] at h
  have h1 := h.1 p hp
  simp only [Bool.or_eq_true] at h1
  refine ⟨h1.1.imp (fun h => Nat.le_of_ble_eq_true h) pre_of, fun s hs hm => ?_⟩
  have := h1.2 s hs
  simp [hm] at this
theorem chk_eat {sh : List Shape} {k p : Nat} {uses eats : List Nat} (h : chk ops sh k uses eats = true) (hp : p ∈ eats) : p ∈ uses ∧ ∀ s ∈ sh, p ∈ s.uses → Pre ops s.idx k := by
  simp only [chk, Bool.and_eq_true, List.all_eq_true] at h
  have h1 := h.2 p hp
  refine ⟨by simpa using h1.1, fun s hs hm => ?_⟩
  have := h1.2 s hs
  simp only [Bool.or_eq_true, Bool.not_eq_true'] at this
  rcases this with h' | h'
  · rw [List.contains_eq_mem] at h'; simp [hm] at h'
  · exact pre_of h'
theorem mem_shs {s : Shape} : ∀ (D : List OpD) (k : Nat), s ∈ shs D k ↔ ∃ (j : Nat) (d : OpD), D[j]? = some d ∧ s = d.sh (k + j)
  | [], k => by simp [shs]
  | d :: r, k => by
    rw [shs, List.mem_cons, mem_shs r (k + 1)]
    constructor
    · rintro (rfl | ⟨j, d', hj, rfl⟩)
      · exact ⟨0, d, rfl, rfl⟩
      · exact ⟨j + 1, d', by simpa using hj, by rw [Nat.add_assoc k 1 j, Nat.add_comm 1 j]⟩
    · rintro ⟨j, d', hj, rfl⟩
      cases j with
      | zero => left; simp at hj; rw [hj]; rfl
      | succ j => right; exact ⟨j, d', by simpa using hj, by rw [Nat.add_assoc k 1 j, Nat.add_comm 1 j]⟩

section
variable {a0 : Act} {F0 : World → Prop}

def G0 (ops : Array Oper) (X0 : Nat → Prop) (F0 : World → Prop) : Ent := ⟨ops.size, fun _ => F0, fun _ => X0⟩
/-- what is known of number p, if D is all -/
def FF (ops : Array Oper) (F0 : World → Prop) (D : List OpD) (p : Nat) (vs : Vs) (w : World) : Prop := if p = ops.size then F0 w else ∀ d, D[p]? = some d → d.F vs w
def OO (ops : Array Oper) (X0 : Nat → Prop) (D : List OpD) (p : Nat) (vs : Vs) (g : Nat) : Prop := if p = ops.size then X0 g else ∃ d, D[p]? = some d ∧ d.own vs g
theorem Fof_G0 (D : List OpD) (p : Nat) (vs : Vs) (w : World) : Fof (G0 ops X0 F0 :: ents D 0) p vs w ↔ FF ops F0 D p vs w := by
  unfold FF
  show (bif Nat.beq ops.size p then F0 w else Fof (ents D 0) p vs w) ↔ _
  cases hb : Nat.beq ops.size p
  · rw [if_neg (fun e => by rw [e, Nat.beq_refl] at hb; cases hb)]
    simpa using Fof_ents vs w p D 0 (Nat.zero_le _)
  · rw [if_pos (Nat.eq_of_beq_eq_true hb).symm]; rfl
theorem Oof_G0 (D : List OpD) (p : Nat) (vs : Vs) (g : Nat) : Oof (G0 ops X0 F0 :: ents D 0) p vs g ↔ OO ops X0 D p vs g := by
  unfold OO
  show (bif Nat.beq ops.size p then X0 g else Oof (ents D 0) p vs g) ↔ _
  cases hb : Nat.beq ops.size p
  · rw [if_neg (fun e => by rw [e, Nat.beq_refl] at hb; cases hb)]
    simpa using Oof_ents vs g p D 0 (Nat.zero_le _)
  · rw [if_pos (Nat.eq_of_beq_eq_true hb).symm]; rfl

structure Inv (ops : Array Oper) (X0 : Nat → Prop) (w0 : World) (a0 : Act) (F0 : World → Prop) (D : List OpD) (listed : Array Bool) (a : Act) (w : World) (vs : Vs) : Prop where
  size : listed.size = ops.size
  down : ∀ i p, listed.getD i false = true → Pre ops p i → listed.getD p false = true
  keeps : Keeps X0 w0 w
  defers : a.defers = a0.defers
  tsize : a.tmps.size = a0.tmps.size
  slot : ∀ i t d, listed.getD i false = true → dstOf ops i = some t → t < a0.tmps.size → D[i]? = some d → a.tmps[t]? = some (d.val i vs)
  other : ∀ t, (∀ i, listed.getD i false = true → dstOf ops i ≠ some t) → a.tmps[t]? = a0.tmps[t]?
  fact : ∀ p, (ops.size ≤ p ∨ listed.getD p false = true) → (∀ j d, D[j]? = some d → p ∈ d.eats → listed.getD j false = false) →
    FF ops F0 D p vs w ∧ ∀ g, OO ops X0 D p vs g → g < w.heap.size ∧ ¬ (g < w0.heap.size ∧ ¬ X0 g)
  disj : ∀ p q, (ops.size ≤ p ∨ listed.getD p false = true) → (∀ j d, D[j]? = some d → p ∈ d.eats → listed.getD j false = false) →
    (ops.size ≤ q ∨ listed.getD q false = true) → (∀ j d, D[j]? = some d → q ∈ d.eats → listed.getD j false = false) → p ≠ q → ∀ g, OO ops X0 D p vs g → ¬ OO ops X0 D q vs g

theorem listed_set {listed : Array Bool} {i j : Nat} (h : (listed.setIfInBounds i true).getD j false = true) : j = i ∨ listed.getD j false = true := by
  by_cases hij : i = j
  · exact .inl hij.symm
  · rw [getD_set_ne false hij] at h; exact .inr h
theorem listed_keep {listed : Array Bool} {i j : Nat} (h : (listed.setIfInBounds i true).getD j false = false) : listed.getD j false = false := by
  cases hj : listed.getD j false
  · rfl
  · rw [getD_set_true hj] at h; exact h
theorem take_get {D : List OpD} {i j : Nat} {d : OpD} (h : (D.take i)[j]? = some d) : j < i ∧ D[j]? = some d := by
  rw [List.getElem?_take] at h
  split at h
  · exact ⟨‹_›, h⟩
  · cases h

theorem Inv.step {D : List OpD} (hg : globChk ops = true) (hX : ∀ g, X0 g → g < w0.heap.size) (hF0 : ∀ w w', F0 w → Sta (fun g => (g < w0.heap.size ∧ ¬ X0 g) ∨ X0 g) w w' → F0 w') (hS : ∀ w, Keeps X0 w0 w → S w)
    (hD : D.length = ops.size) (hA : ∀ j o d, D[j]? = some d → ops[j]? = some o → Asked P ops X0 w0 S a0 (G0 ops X0 F0) (D.take j) j o d)
    {listed : Array Bool} {a : Act} {w : World} {vs : Vs} (hI : Inv ops X0 w0 a0 F0 D listed a w vs) {i : Nat} (hi : i ∈ Region.ready .any ops listed) :
    wpOp P ops Q i (fun a' w' => ∃ vs', Inv ops X0 w0 a0 F0 D (listed.setIfInBounds i true) a' w' vs') a w := by
  simp only [globChk, Bool.and_eq_true] at hg
  obtain ⟨⟨⟨hsel, hlook⟩, hdist⟩, htopo⟩ := hg
  obtain ⟨hun, o, ho, hafter⟩ := mem_ready.1 hi
  have hilt : i < ops.size := (Array.getElem?_eq_some_iff.1 ho).1
  have hun' : listed.getD i false = false := by
    have : i < listed.size := by rw [hI.size]; exact hilt
    simp only [Array.getD_eq_getD_getElem?, Array.getElem?_eq_getElem this] at hun ⊢
    exact hun
  have hpre : ∀ p, Pre ops p i → listed.getD p false = true := by
    intro p hp
    cases hp with
    | edge ho' he hb => rw [ho] at ho'; injection ho' with ho'; subst ho'; exact hafter _ he hb
    | more ho' he hb hp => rw [ho] at ho'; injection ho' with ho'; subst ho'; exact hI.down _ _ (hafter _ he hb) hp
  obtain ⟨d, hd⟩ : ∃ d, D[i]? = some d := ⟨_, List.getElem?_eq_getElem (by rw [hD]; exact hilt)⟩
  have hask := hA i o d hd ho
  have hdst : dstOf ops i = o.dst := by rw [dstOf, ho]; rfl
  -- the frame at hand agrees with the one that was asked about
  have hagree : ∀ t, t ∈ o.looksAt ops → a.tmps[t]? = (bGo ops vs (D.take i) 0 a0).tmps[t]? := by
    intro t ht
    by_cases hex : ∃ j, dstOf ops j = some t
    · obtain ⟨j, hj⟩ := hex
      have notI : ∀ j', dstOf ops j' = some t → j' = j := fun j' h => dist_of hdist _ _ _ h hj
      have later : listed.getD j false = false → i ≤ j → a.tmps[t]? = (bGo ops vs (D.take i) 0 a0).tmps[t]? := fun hl hij => by
        rw [hI.other t (fun j' h1 h2 => by rw [notI j' h2, hl] at h1; cases h1), bGo_other ops vs t _ _ _ (fun j' _ h2 h3 => by
          have := notI j' h3
          rw [List.length_take] at h2
          omega)]
      rcases look_of hlook ho ht hj with rfl | ⟨hlt, hp⟩ | ⟨hlt, hp⟩
      · exact later hun' (Nat.le_refl _)
      · obtain ⟨dj, hdj⟩ : ∃ d, D[j]? = some d := ⟨_, List.getElem?_eq_getElem (by rw [hD]; omega)⟩
        by_cases hts : t < a0.tmps.size
        · rw [hI.slot j t dj (hpre _ hp) hj hts hdj]
          rw [bGo_at ops vs (fun i j t => dist_of hdist i j t) t j hj dj (D.take i) 0 a0 (Nat.zero_le _) (by rw [Nat.sub_zero, List.getElem?_take, if_pos hlt, hdj]) hts]
        · have hts' : a0.tmps.size ≤ t := Nat.le_of_not_lt hts
          rw [Array.getElem?_eq_none (by rw [hI.tsize]; exact hts'), Array.getElem?_eq_none (by rw [bGo_size]; exact hts')]
      · refine later ?_ (by omega)
        cases hl : listed.getD j false
        · rfl
        · have := hI.down _ _ hl hp
          rw [hun'] at this; cases this
    · rw [hI.other t (fun j h1 h2 => hex ⟨j, h2⟩), bGo_other ops vs t _ _ _ (fun j _ _ h3 => hex ⟨j, h3⟩)]
  have hsize : a.tmps.size = (bGo ops vs (D.take i) 0 a0).tmps.size := by rw [bGo_size, hI.tsize]
  have hexec : execOp a.eval o = execOp (bGo ops vs (D.take i) 0 a0).eval o := exec_agree (fun cs b => Region.noSelect_spec hsel i o cs b ho) hagree
  have hwant := wanted_agree hagree
  -- who is asked about is alive
  have halive : ∀ uses eats, chk ops (shs (D.take i) 0) i uses eats = true → d.uses = uses → ∀ p ∈ uses, (ops.size ≤ p ∨ listed.getD p false = true) ∧ (∀ j dj, D[j]? = some dj → p ∈ dj.eats → listed.getD j false = false) := by
    intro uses eats hc hu p hp
    obtain ⟨h1, h2⟩ := chk_use hc hp
    refine ⟨h1.imp id (hpre p), fun j dj hj hm => ?_⟩
    rcases Nat.lt_trichotomy j i with hlt | rfl | hlt
    · exact absurd hm (h2 (dj.sh (0 + j)) ((mem_shs _ _).2 ⟨j, dj, by rw [List.getElem?_take, if_pos hlt, hj], rfl⟩))
    · exact hun'
    · obtain ⟨oj, hoj⟩ : ∃ oj, ops[j]? = some oj := ⟨_, Array.getElem?_eq_getElem (by have := (List.getElem?_eq_some_iff.1 hj).1; omega)⟩
      have hcj : ∃ u, chk ops (shs (D.take j) 0) j u dj.eats = true := by
        have := hA j oj dj hj hoj
        cases dj with
        | cl v u => exact ⟨u, this.1⟩
        | opn F own u e => exact ⟨u, this.1⟩
      obtain ⟨u, hcj⟩ := hcj
      have h3 := (chk_eat hcj hm).2 (d.sh (0 + i)) ((mem_shs _ _).2 ⟨i, d, by rw [List.getElem?_take, if_pos hlt, hd], rfl⟩) (by show p ∈ d.uses; rw [hu]; exact hp)
      have h3' : Pre ops i j := by have e : (d.sh (0 + i)).idx = i := Nat.zero_add i; rwa [e] at h3
      cases hl : listed.getD j false
      · rfl
      · have := hI.down _ _ hl h3'
        rw [hun'] at this; cases this
  have hfull : ∀ (p : Nat) (vs : Vs) (w : World), FF ops F0 D p vs w → Fof (G0 ops X0 F0 :: ents (D.take i) 0) p vs w := fun p vs w h => by
    have := (Fof_G0 (X0 := X0) D p vs w).2 h
    have e : ents D 0 = ents (D.take i) 0 ++ ents (D.drop i) (0 + (D.take i).length) := by rw [← ents_append, List.take_append_drop]
    rw [e, ← List.cons_append] at this
    exact Fof_append _ _ _ _ _ this
  have hfullO : ∀ (p : Nat) (vs : Vs) (g : Nat), Oof (G0 ops X0 F0 :: ents (D.take i) 0) p vs g → OO ops X0 D p vs g := fun p vs g h => by
    rw [← Oof_G0 (F0 := F0)]
    have e : ents D 0 = ents (D.take i) 0 ++ ents (D.drop i) (0 + (D.take i).length) := by rw [← ents_append, List.take_append_drop]
    rw [e, ← List.cons_append]
    exact Oof_append _ _ _ _ _ h
  -- other facts do not look at what i leaves
  have hdepF : ∀ v p, p ≠ i → (ops.size ≤ p ∨ listed.getD p false = true) → ∀ w, FF ops F0 D p vs w → FF ops F0 D p (upd vs i v) w := by
    intro v p hpi hpl w h
    unfold FF at h ⊢
    split
    · rename_i e; rw [if_pos e] at h; exact h
    · rename_i e
      rw [if_neg e] at h
      intro dp hdp
      have hplt : p < ops.size := by have := (List.getElem?_eq_some_iff.1 hdp).1; omega
      have hl := hpl.resolve_left (by omega)
      have h1 := h dp hdp
      cases dp with
      | cl v u => trivial
      | opn F own u e =>
        have hq := (hA p _ _ hdp (Array.getElem?_eq_getElem hplt)).2.1 vs (upd vs i v) (fun j hj => (upd_ne vs v (by
          rintro rfl
          rcases hj with rfl | hj
          · exact hpi rfl
          · have := hI.down _ _ hl (pre_of hj); rw [hun'] at this; cases this)).symm)
        show F (upd vs i v) w
        rw [← hq.1]; exact h1
  have hdepO : ∀ v p, p ≠ i → (ops.size ≤ p ∨ listed.getD p false = true) → ∀ g, OO ops X0 D p (upd vs i v) g → OO ops X0 D p vs g := by
    intro v p hpi hpl g h
    unfold OO at h ⊢
    split
    · rename_i e; rw [if_pos e] at h; exact h
    · rename_i e
      rw [if_neg e] at h
      obtain ⟨dp, hdp, h1⟩ := h
      have hplt : p < ops.size := by have := (List.getElem?_eq_some_iff.1 hdp).1; omega
      have hl := hpl.resolve_left (by omega)
      refine ⟨dp, hdp, ?_⟩
      cases dp with
      | cl v u => exact h1
      | opn F own u e =>
        have hq := (hA p _ _ hdp (Array.getElem?_eq_getElem hplt)).2.1 vs (upd vs i v) (fun j hj => (upd_ne vs v (by
          rintro rfl
          rcases hj with rfl | hj
          · exact hpi rfl
          · have := hI.down _ _ hl (pre_of hj); rw [hun'] at this; cases this)).symm)
        show own vs g
        rw [hq.2]; exact h1
  -- what is behind the operation
  have hafterI : ∀ v w', d.val i (upd vs i v) = v → (d.F (upd vs i v) w') → (∀ p ∈ d.eats, p ∈ d.uses) → (∀ p ∈ d.uses, (ops.size ≤ p ∨ listed.getD p false = true) ∧ (∀ j dj, D[j]? = some dj → p ∈ dj.eats → listed.getD j false = false)) →
      Keeps (fun g => ∃ p ∈ d.eats, OO ops X0 D p vs g) w w' → (∀ g, d.own (upd vs i v) g → g < w'.heap.size ∧ (w.heap.size ≤ g ∨ ∃ p ∈ d.eats, OO ops X0 D p vs g)) →
      ∃ vs', Inv ops X0 w0 a0 F0 D (listed.setIfInBounds i true) (a.put o.dst v) w' vs' := by
    intro v w' hval hF heu hal hK hown
    have hnE : ∀ g, (g < w0.heap.size ∧ ¬ X0 g) → ¬ ∃ p ∈ d.eats, OO ops X0 D p vs g := fun g hold ⟨p, hp, hg⟩ => by
      have := hal p (heu p hp)
      exact ((hI.fact p this.1 this.2).2 g hg).2 hold
    have hsz0 : w0.heap.size ≤ w.heap.size := hI.keeps.size
    have live' : ∀ p, (∀ j dj, D[j]? = some dj → p ∈ dj.eats → (listed.setIfInBounds i true).getD j false = false) → (∀ j dj, D[j]? = some dj → p ∈ dj.eats → listed.getD j false = false) ∧ p ∉ d.eats := fun p h => by
      refine ⟨fun j dj hj hm => listed_keep (h j dj hj hm), fun hm => ?_⟩
      have := h i d hd hm
      have hlt : i < listed.size := by rw [hI.size]; exact hilt
      simp [hlt] at this
    refine ⟨upd vs i v, ⟨by simpa using hI.size, ?_, ?_, by rw [put_defers]; exact hI.defers, by rw [put_size]; exact hI.tsize, ?_, ?_, ?_, ?_⟩⟩
    · intro j p hj hp
      rcases listed_set hj with rfl | hj
      · exact getD_set_true (hpre p hp)
      · exact getD_set_true (hI.down _ _ hj hp)
    · refine ⟨hK.os.trans hI.keeps.os, hK.tape.trans hI.keeps.tape, hK.output.trans hI.keeps.output, Nat.le_trans hsz0 hK.size, fun g hgl hgx => ?_⟩
      rw [hK.block g (by omega) (hnE g ⟨hgl, hgx⟩), hI.keeps.block g hgl hgx]
    · intro j t dj hj hjt hts hdj
      by_cases hji : j = i
      · subst hji
        rw [hd] at hdj; injection hdj with hdj; subst hdj
        rw [← hdst, hjt, put_at _ _ _ (by rw [hI.tsize]; exact hts), hval]
      · rcases listed_set hj with rfl | hj
        · exact absurd rfl hji
        · rw [put_other _ _ _ _ (fun e => hji (dist_of hdist j i t hjt (by rw [hdst, e]))), hI.slot j t dj hj hjt hts hdj]
          cases dj with
          | cl v u => rfl
          | opn F own u e => show some (vs j) = some (upd vs i v j); rw [upd_ne vs v hji]
    · intro t ht
      have hti : o.dst ≠ some t := by
        rw [← hdst]
        exact ht i (by
          have hlt : i < listed.size := by rw [hI.size]; exact hilt
          simp [hlt])
      rw [put_other _ _ _ _ hti, hI.other t (fun j hj => ht j (getD_set_true hj))]
    · intro p hpl hplive
      obtain ⟨hlv, hne⟩ := live' p hplive
      by_cases hpi : p = i
      · subst hpi
        have hpn : ¬ p = ops.size := by omega
        constructor
        · unfold FF; rw [if_neg hpn]; intro dp hdp; rw [hd] at hdp; injection hdp with hdp; subst hdp; exact hF
        · intro g hg
          unfold OO at hg; rw [if_neg hpn] at hg
          obtain ⟨dp, hdp, hg⟩ := hg
          rw [hd] at hdp; injection hdp with hdp; subst hdp
          obtain ⟨h1, h2⟩ := hown g hg
          refine ⟨h1, ?_⟩
          rcases h2 with h2 | ⟨q, hq, h2⟩
          · rintro ⟨h3, _⟩; omega
          · exact fun hold => hnE g hold ⟨q, hq, h2⟩
      · have hpl' : ops.size ≤ p ∨ listed.getD p false = true := hpl.imp id fun h => (listed_set h).resolve_left hpi
        obtain ⟨hfp, hop⟩ := hI.fact p hpl' hlv
        have hsame : ∀ g, g < w.heap.size → ((g < w0.heap.size ∧ ¬ X0 g) ∨ OO ops X0 D p vs g) → w'.heap[g]? = w.heap[g]? := fun g hgl hgo => hK.block g hgl (by
          rcases hgo with hgo | hgo
          · exact hnE g hgo
          · rintro ⟨q, hq, hq2⟩
            have hqa := hal q (heu q hq)
            have hpq : p ≠ q := by rintro rfl; exact hne hq
            exact hI.disj p q hpl' hlv hqa.1 hqa.2 hpq g hgo hq2)
        constructor
        · have h1 := hdepF v p hpi hpl' w hfp
          unfold FF at h1 ⊢
          split
          · rename_i e
            rw [if_pos e] at h1
            exact hF0 _ _ h1 ⟨hK.size, fun g hgl hgo => hsame g hgl (by
              rcases hgo with hgo | hgo
              · exact .inl hgo
              · exact .inr (by unfold OO; rw [if_pos e]; exact hgo))⟩
          · rename_i e
            rw [if_neg e] at h1
            intro dp hdp
            have hplt : p < ops.size := by have := (List.getElem?_eq_some_iff.1 hdp).1; omega
            have h2 := h1 dp hdp
            cases dp with
            | cl v u => trivial
            | opn F own u e' =>
              refine (hA p _ _ hdp (Array.getElem?_eq_getElem hplt)).2.2.1 _ _ _ h2 ⟨hK.size, fun g hgl hgo => hsame g hgl ?_⟩
              rcases hgo with hgo | hgo
              · exact .inl hgo
              · exact .inr (hdepO v p hpi hpl' g (by unfold OO; rw [if_neg e]; exact ⟨_, hdp, hgo⟩))
        · intro g hg
          obtain ⟨h1, h2⟩ := hop g (hdepO v p hpi hpl' g hg)
          exact ⟨Nat.lt_of_lt_of_le h1 hK.size, h2⟩
    · -- two who are alive share no block
      have hone : ∀ q, (ops.size ≤ q ∨ listed.getD q false = true) → (∀ j dj, D[j]? = some dj → q ∈ dj.eats → listed.getD j false = false) → q ∉ d.eats → ∀ g, d.own (upd vs i v) g → ¬ OO ops X0 D q vs g := by
        intro q hql hqlv hqe g hg hgq
        rcases (hown g hg).2 with h2 | ⟨p, hp, h2⟩
        · have := ((hI.fact q hql hqlv).2 g hgq).1; omega
        · have hpa := hal p (heu p hp)
          have hqp : q ≠ p := by rintro rfl; exact hqe hp
          exact hI.disj q p hql hqlv hpa.1 hpa.2 hqp g hgq h2
      have hii : ∀ g, OO ops X0 D i (upd vs i v) g → d.own (upd vs i v) g := fun g hg => by
        unfold OO at hg; rw [if_neg (by omega)] at hg
        obtain ⟨dp, hdp, hg⟩ := hg
        rw [hd] at hdp; injection hdp with hdp; subst hdp; exact hg
      intro p q hpl hplive hql hqlive hpq g hp hq
      obtain ⟨hlp, hep⟩ := live' p hplive
      obtain ⟨hlq, heq⟩ := live' q hqlive
      by_cases hpi : p = i
      · subst hpi
        have hqi : q ≠ p := Ne.symm hpq
        have hql' : ops.size ≤ q ∨ listed.getD q false = true := hql.imp id fun h => (listed_set h).resolve_left hqi
        exact hone q hql' hlq heq g (hii g hp) (hdepO v q hqi hql' g hq)
      · have hpl' : ops.size ≤ p ∨ listed.getD p false = true := hpl.imp id fun h => (listed_set h).resolve_left hpi
        by_cases hqi : q = i
        · subst hqi
          exact hone p hpl' hlp hep g (hii g hq) (hdepO v p hpi hpl' g hp)
        · have hql' : ops.size ≤ q ∨ listed.getD q false = true := hql.imp id fun h => (listed_set h).resolve_left hqi
          exact hI.disj p q hpl' hlp hql' hlq hpq g (hdepO v p hpi hpl' g hp) (hdepO v q hqi hql' g hq)
  -- the operation itself
  have hSw := hS w hI.keeps
  cases d with
  | cl v uses =>
    obtain ⟨hc, hrun⟩ := hask
    have hal := halive uses [] hc rfl
    have hr := hrun vs w hI.keeps hSw (fun p hp => hfull p vs w (hI.fact p (hal p hp).1 (hal p hp).2).1) (fun a' w' => ∃ v', a' = (bGo ops vs (D.take i) 0 a0).put o.dst v' ∧ (v' = v ∧ Keeps (fun _ => False) w w')) (fun v w' h => ⟨v, rfl, h⟩)
    have fin : ∀ v' w', (v' = v ∧ Keeps (fun _ => False) w w') → ∃ vs', Inv ops X0 w0 a0 F0 D (listed.setIfInBounds i true) (a.put o.dst v') w' vs' := fun v' w' ⟨h1, h2⟩ => by
      subst h1
      exact hafterI v' w' rfl trivial (by simp [OpD.eats]) hal ⟨h2.os, h2.tape, h2.output, h2.size, fun g hgl _ => h2.block g hgl id⟩ (fun g hg => hg.elim)
    unfold wpOp
    simp only [ho]
    rw [hwant]
    split
    · rename_i hw
      rw [if_pos hw] at hr
      refine .inl (wp_false (Oper.wp_mono (fun a' w' h => ?_) (wp_move hsize hexec hr)))
      obtain ⟨v, rfl, h⟩ := h
      exact fin v w' h
    · rename_i hw
      rw [if_neg hw] at hr
      obtain ⟨v, hv, h⟩ := hr
      rw [put_same hsize hv]
      exact fin v w h
  | opn F own uses eats =>
    obtain ⟨hc, hdep, hsta, hrun⟩ := hask
    have hal := halive uses eats hc rfl
    have hr := hrun vs w hI.keeps hSw (fun p hp => hfull p vs w (hI.fact p (hal p hp).1 (hal p hp).2).1) (fun a' w' => ∃ v, a' = (bGo ops vs (D.take i) 0 a0).put o.dst v ∧ (F (upd vs i v) w' ∧ Keeps (fun g => ∃ p ∈ eats, Oof (G0 ops X0 F0 :: ents (D.take i) 0) p vs g) w w' ∧ ∀ g, own (upd vs i v) g → g < w'.heap.size ∧ (w.heap.size ≤ g ∨ ∃ p ∈ eats, Oof (G0 ops X0 F0 :: ents (D.take i) 0) p vs g))) (fun v w' h => ⟨v, rfl, h⟩)
    have fin : ∀ v w', (F (upd vs i v) w' ∧ Keeps (fun g => ∃ p ∈ eats, Oof (G0 ops X0 F0 :: ents (D.take i) 0) p vs g) w w' ∧ ∀ g, own (upd vs i v) g → g < w'.heap.size ∧ (w.heap.size ≤ g ∨ ∃ p ∈ eats, Oof (G0 ops X0 F0 :: ents (D.take i) 0) p vs g)) →
        ∃ vs', Inv ops X0 w0 a0 F0 D (listed.setIfInBounds i true) (a.put o.dst v) w' vs' := fun v w' ⟨h1, h2, h3⟩ =>
      hafterI v w' (upd_same vs i v) h1 (fun p hp => (chk_eat hc hp).1) hal
        ⟨h2.os, h2.tape, h2.output, h2.size, fun g hgl hgn => h2.block g hgl (fun ⟨p, hp, hg⟩ => hgn ⟨p, hp, hfullO p vs g hg⟩)⟩
        (fun g hg => ⟨(h3 g hg).1, (h3 g hg).2.imp id fun ⟨p, hp, hg⟩ => ⟨p, hp, hfullO p vs g hg⟩⟩)
    unfold wpOp
    simp only [ho]
    rw [hwant]
    split
    · rename_i hw
      rw [if_pos hw] at hr
      refine .inl (wp_false (Oper.wp_mono (fun a' w' h => ?_) (wp_move hsize hexec hr)))
      obtain ⟨v, rfl, h⟩ := h
      exact fin v w' h
    · rename_i hw
      rw [if_neg hw] at hr
      obtain ⟨v, hv, h⟩ := hr
      rw [put_same hsize hv]
      exact fin v w h

theorem wpAny_inv {I : Array Bool → Act → World → Prop} (hd : ∀ listed a w, I listed a w → Region.ready .any ops listed = [] → Q .normal a w)
    (hs : ∀ listed a w i, I listed a w → i ∈ Region.ready .any ops listed → wpOp P ops Q i (fun a' w' => I (listed.setIfInBounds i true) a' w') a w)
    (hz : ∀ listed a w, I listed a w → listed.size = ops.size) :
    ∀ (fuel : Nat) (listed : Array Bool) (a : Act) (w : World), (listed.toList.countP (· == false)) ≤ fuel → I listed a w → wpAny P .any ops Q fuel listed a w
  | 0, listed, a, w, hf, hI => by
    have hr : Region.ready .any ops listed = [] := by
      apply List.eq_nil_iff_forall_not_mem.2
      intro i hi
      have h1 := (mem_ready.1 hi).1
      have hlt : i < listed.size := by
        rcases Nat.lt_or_ge i listed.size with h | h
        · exact h
        · simp [Array.getElem?_eq_none h] at h1
      have h2 := (List.countP_eq_zero.1 (Nat.le_zero.1 hf)) listed[i] (by simp)
      simp [hlt] at h1
      simp [h1] at h2
    exact ⟨hr, hd _ _ _ hI hr⟩
  | fuel + 1, listed, a, w, hf, hI => by
    refine ⟨fun hr => hd _ _ _ hI hr, fun i hi => wpOp_mono (fun a' w' h => wpAny_inv hd hs hz fuel _ a' w' ?_ h) (hs listed a w i hI hi)⟩
    have h1 := (mem_ready.1 hi).1
    have hlt : i < listed.size := by
      rcases Nat.lt_or_ge i listed.size with h | h
      · exact h
      · simp [Array.getElem?_eq_none h] at h1
    simp [hlt] at h1
    have h2 : (listed.setIfInBounds i true).toList = listed.toList.set i true := by simp [Array.toList_setIfInBounds]
    rw [h2, List.countP_set (by simpa using hlt)]
    simp [h1]
    have h3 : 0 < listed.toList.countP (fun x => x == false) := List.countP_pos_iff.2 ⟨listed[i], by simp, by simp [h1]⟩
    simp at h3 hf ⊢
    omega

/-- **A region that draws its order, each operation looked at once.** -/
theorem wp_region_inv {id : Nat} {w : World} (S : World → Prop) (X0 : Nat → Prop) (F0 : World → Prop) (hm : P.follows .mixedOrders = true) (hg : globChk ops = true) (hX : ∀ g, X0 g → g < w.heap.size)
    (hF : F0 w.drew) (hF0 : ∀ w1 w2, F0 w1 → Sta (fun g => (g < w.heap.size ∧ ¬ X0 g) ∨ X0 g) w1 w2 → F0 w2) (hS : ∀ w1, Keeps X0 w.drew w1 → S w1)
    (h : ROK P ops Q X0 w.drew S ops.toList 0 [] [G0 ops X0 F0] (fun _ => a0)) : (Code.region id ops true).wp P Q a0 w := by
  obtain ⟨D, hD, hA, hfin⟩ := h.data [] rfl (Nat.zero_le _) rfl rfl (fun _ => rfl) rfl
  rw [List.nil_append] at hD
  simp only [List.nil_append, Nat.zero_add] at hA hfin
  refine wp_region_any hm ?_
  refine wpAny_inv (I := fun listed a w1 => ∃ vs, Inv ops X0 w.drew a0 F0 D listed a w1 vs) ?_ ?_ ?_ _ _ _ _ ?_ ?_
  · rintro listed a w1 ⟨vs, hI⟩ hr
    have hg' := hg
    simp only [globChk, Bool.and_eq_true] at hg'
    obtain ⟨⟨⟨hsel, hlook⟩, hdist⟩, htopo⟩ := hg'
    have hall := all_listed htopo hI.size hr
    have ha : a = bGo ops vs D 0 a0 := by
      have h1 : a.tmps = (bGo ops vs D 0 a0).tmps := by
        apply Array.ext_getElem?
        intro t
        by_cases hex : ∃ j, dstOf ops j = some t
        · obtain ⟨j, hj⟩ := hex
          obtain ⟨dj, hdj⟩ : ∃ d, D[j]? = some d := ⟨_, List.getElem?_eq_getElem (by rw [hD]; exact dstOf_lt hj)⟩
          by_cases hts : t < a0.tmps.size
          · rw [hI.slot j t dj (hall j (dstOf_lt hj)) hj hts hdj, bGo_at ops vs (fun i j t => dist_of hdist i j t) t j hj dj D 0 a0 (Nat.zero_le _) (by rw [Nat.sub_zero, hdj]) hts]
          · have hts' : a0.tmps.size ≤ t := Nat.le_of_not_lt hts
            rw [Array.getElem?_eq_none (by rw [hI.tsize]; exact hts'), Array.getElem?_eq_none (by rw [bGo_size]; exact hts')]
        · rw [hI.other t (fun j _ h2 => hex ⟨j, h2⟩), bGo_other ops vs t _ _ _ (fun j _ _ h3 => hex ⟨j, h3⟩)]
      have h2 : a.defers = (bGo ops vs D 0 a0).defers := by rw [bGo_defers, hI.defers]
      cases a
      generalize bGo ops vs D 0 a0 = b at *
      cases b
      simp only at h1 h2
      rw [h1, h2]
    rw [ha]
    refine hfin vs w1 hI.keeps (hS _ hI.keeps) (fun p hp => ?_)
    rw [Fof_G0]
    by_cases hpn : p = ops.size ∨ p < ops.size
    · refine (hI.fact p ?_ ?_).1
      · exact hpn.imp (fun h => by omega) (hall p)
      · intro j d hj hm
        have h1 := List.all_eq_true.1 hp (d.sh (0 + j)) ((mem_shs _ _).2 ⟨j, d, hj, rfl⟩)
        have h2 : (!d.eats.contains p) = true := h1
        rw [List.contains_eq_mem] at h2
        simp [hm] at h2
    · unfold FF
      rw [if_neg (fun e => hpn (.inl e))]
      intro d hd
      have := (List.getElem?_eq_some_iff.1 hd).1
      exact absurd (.inr (by omega)) hpn
  · rintro listed a w1 i ⟨vs, hI⟩ hi
    exact Inv.step (w0 := w.drew) hg hX hF0 hS hD (fun j o d hd ho => hA j o d hd ho) hI hi
  · rintro listed a w1 ⟨vs, hI⟩
    exact hI.size
  · exact Nat.le_trans List.countP_le_length (by simp)
  · have hz : ∀ i, (Array.replicate ops.size false).getD i false = false := fun i => by
      simp only [Array.getD_eq_getD_getElem?, Array.getElem?_replicate]
      split <;> rfl
    have hno : ∀ i, ¬ (Array.replicate ops.size false).getD i false = true := fun i h => by rw [hz] at h; cases h
    refine ⟨fun _ => undef, ⟨by simp, fun i p h => absurd h (hno i), Keeps.refl _ _, rfl, rfl, fun i t d h => absurd h (hno i), fun t _ => rfl, ?_, ?_⟩⟩
    · intro p hp _
      have hp' : ops.size ≤ p := hp.resolve_right (hno p)
      unfold FF OO
      by_cases e : p = ops.size
      · rw [if_pos e]
        refine ⟨hF, fun g hg' => ?_⟩
        rw [if_pos e] at hg'
        exact ⟨hX g hg', fun h => h.2 hg'⟩
      · rw [if_neg e]
        refine ⟨fun d hd => ?_, fun g hg' => ?_⟩
        · have := (List.getElem?_eq_some_iff.1 hd).1; omega
        · rw [if_neg e] at hg'
          obtain ⟨d, hd, _⟩ := hg'
          have := (List.getElem?_eq_some_iff.1 hd).1; omega
    · intro p q hp _ hq _ hpq g h1 h2
      have hp' : ops.size ≤ p := hp.resolve_right (hno p)
      have hq' : ops.size ≤ q := hq.resolve_right (hno q)
      unfold OO at h1 h2
      by_cases e : p = ops.size
      · rw [if_neg (fun e' => hpq (by rw [e, e']))] at h2
        obtain ⟨d, hd, _⟩ := h2
        have := (List.getElem?_eq_some_iff.1 hd).1; omega
      · rw [if_neg e] at h1
        obtain ⟨d, hd, _⟩ := h1
        have := (List.getElem?_eq_some_iff.1 hd).1; omega
end
end

/-! ### The moves of a walk: the checks are collected, and made once, at the end -/
structure Out where
  idx : Nat
  uses : List Nat
  eats : List Nat
  gs : Option (Nat × Tmp)
  deps : List Nat := []
def Out.sh (x : Out) : Shape := ⟨x.idx, x.uses, x.eats⟩
def gsChk (ops : Array Oper) : Option (Nat × Tmp) → Bool
  | none => true
  | some (g, t) => dstOf ops g == some t
def chkF (sh : List Shape) (uses : List Nat) : Bool := uses.all fun p => sh.all fun s => !s.eats.contains p
def chkAll (ops : Array Oper) : List Shape → List Out → Bool
  | _, [] => true
  | sh, x :: r => (bif Nat.beq x.idx ops.size then chkF sh x.uses else chk ops sh x.idx x.uses x.eats) && (gsChk ops x.gs && x.deps.all (maskOf ops x.idx)) && chkAll ops (sh ++ [x.sh]) r

/-- the guard of an operation: none, or a place that holds a truth value -/
def Want (o : Oper) (gs : Option (Nat × Tmp)) (a : Act) (x : Bool) : Prop :=
  match o.guard, gs with
  | none, none => x = true
  | some (g, want), some (g', t) => g = g' ∧ ∃ y, a.tmps[t]? = some (.bool y) ∧ x = (y == want)
  | _, _ => False
/-- a guard that was itself not asked: its place holds nothing that is true or false -/
def Unasked (o : Oper) (gs : Option (Nat × Tmp)) (a : Act) : Prop :=
  match o.guard, gs with
  | some (g, _), some (g', t) => g = g' ∧ a.tmps[t]? = some undef
  | _, _ => False
theorem want_of {ops : Array Oper} {o : Oper} {gs : Option (Nat × Tmp)} {a : Act} {x : Bool} (h : Want o gs a x) (hc : gsChk ops gs = true) : Region.wanted o (yielded ops a.tmps) = x := by
  unfold Want at h
  unfold Region.wanted
  cases hg : o.guard with
  | none =>
    rw [hg] at h
    cases gs with
    | none => exact h.symm
    | some p => exact h.elim
  | some p =>
    obtain ⟨g, want⟩ := p
    rw [hg] at h
    cases gs with
    | none => exact h.elim
    | some q =>
      obtain ⟨g', t⟩ := q
      obtain ⟨rfl, y, hy, rfl⟩ := h
      have hd : dstOf ops g = some t := by simpa [gsChk] using hc
      unfold dstOf at hd
      have hyd : yielded ops a.tmps g = some y := by
        unfold yielded
        rw [hd]
        simp only [Option.bind_some, hy]
      show (yielded ops a.tmps g == some want) = _
      rw [hyd]
      cases y <;> cases want <;> rfl
theorem unasked_of {ops : Array Oper} {o : Oper} {gs : Option (Nat × Tmp)} {a : Act} (h : Unasked o gs a) (hc : gsChk ops gs = true) : Region.wanted o (yielded ops a.tmps) = false := by
  unfold Unasked at h
  unfold Region.wanted
  cases hg : o.guard with
  | none =>
    rw [hg] at h
    exact h.elim
  | some p =>
    obtain ⟨g, want⟩ := p
    rw [hg] at h
    cases gs with
    | none => exact h.elim
    | some q =>
      obtain ⟨g', t⟩ := q
      obtain ⟨rfl, hy⟩ := h
      have hd : dstOf ops g = some t := by simpa [gsChk] using hc
      unfold dstOf at hd
      have hyd : yielded ops a.tmps g = none := by
        unfold yielded
        rw [hd]
        simp only [Option.bind_some, hy]
        rfl
      show (yielded ops a.tmps g == some want) = _
      rw [hyd]
      cases want <;> rfl

section
variable (P : Program) (QN : Act → World → Prop) (X0 : Nat → Prop) (w0 : World) (S : World → Prop)
inductive RK : List Oper → Nat → List Ent → (Vs → Act) → List Out → Prop
  | done {k : Nat} {Γ : List Ent} {b : Vs → Act} (live : List Nat)
      (h : ∀ vs w, Keeps X0 w0 w → S w → (∀ p ∈ live, Fof Γ p vs w) → QN (b vs) w) : RK [] k Γ b [⟨k, live, [], none, []⟩]
  | val {o : Oper} {rest : List Oper} {k : Nat} {Γ : List Ent} {b : Vs → Act} {out : List Out} (v : Value) (uses : List Nat) (gs : Option (Nat × Tmp))
      (h : ∀ vs w, Keeps X0 w0 w → S w → (∀ p ∈ uses, Fof Γ p vs w) → ∃ x, (Want o gs (b vs) x ∨ (x = false ∧ Unasked o gs (b vs))) ∧ ∀ K : Act → World → Prop, Shut (∀ w', Below w.heap.size w w' → K ((b vs).put o.dst v) w') →
        if x = true then o.wp P (b vs) w K (fun _ _ _ => False) else K ((b vs).put o.dst undef) w)
      (hr : RK rest (k + 1) Γ (fun vs => (b vs).put o.dst v) out) : RK (o :: rest) k Γ b (⟨k, uses, [], gs, []⟩ :: out)
  | op {o : Oper} {rest : List Oper} {k : Nat} {Γ : List Ent} {b : Vs → Act} {out : List Out} (F : Vs → World → Prop) (own : Vs → Nat → Prop) (uses eats deps : List Nat) (gs : Option (Nat × Tmp))
      (hd : ∀ vs vs' : Vs, (∀ i ∈ k :: deps, vs i = vs' i) → F vs = F vs' ∧ own vs = own vs')
      (hs : ∀ vs w w', F vs w → Sta (fun g => (g < w0.heap.size ∧ ¬ X0 g) ∨ own vs g) w w' → F vs w')
      (h : ∀ vs w, Keeps X0 w0 w → S w → (∀ p ∈ uses, Fof Γ p vs w) → ∃ x, Want o gs (b vs) x ∧ ∀ K : Act → World → Prop, Shut (∀ v w', (F (upd vs k v) w' ∧ Keeps (fun g => ∃ p ∈ eats, Oof Γ p vs g) w w' ∧ ∀ g, own (upd vs k v) g → g < w'.heap.size ∧ (w.heap.size ≤ g ∨ ∃ p ∈ eats, Oof Γ p vs g)) → K ((b vs).put o.dst v) w') →
        if x = true then o.wp P (b vs) w K (fun _ _ _ => False) else K ((b vs).put o.dst undef) w)
      (hr : RK rest (k + 1) (Γ ++ [⟨k, F, own⟩]) (fun vs => (b vs).put o.dst (vs k)) out) : RK (o :: rest) k Γ b (⟨k, uses, eats, gs, deps⟩ :: out)
end

theorem RK.rok {P : Program} {ops : Array Oper} {Q : Exit → Act → World → Prop} {QN : Act → World → Prop} {X0 : Nat → Prop} {w0 : World} {S : World → Prop} (hQ : ∀ a w, QN a w → Q .normal a w)
    {rest : List Oper} {k : Nat} {Γ : List Ent} {b : Vs → Act} {out : List Out} (h : RK P QN X0 w0 S rest k Γ b out) :
    ∀ (Δ : List Ent), (∀ p vs w, Fof (Δ ++ Γ) p vs w → Fof Γ p vs w) → (∀ p vs g, Oof Γ p vs g → Oof (Δ ++ Γ) p vs g) → (∀ e ∈ Δ, ops.size ≤ e.idx) → k + rest.length = ops.size → ∀ sh : List Shape, chkAll ops sh out = true → ROK P ops Q X0 w0 S rest k sh (Δ ++ Γ) b := by
  induction h with
  | @done k Γ b live h =>
    intro Δ hF hO _ hkn sh hc
    have hk : k = ops.size := hkn
    subst hk
    simp only [chkAll, Bool.and_eq_true, Nat.beq_refl, cond_true] at hc
    refine .done fun vs w hK hS hf => hQ _ _ (h vs w hK hS fun p hp => hF _ _ _ (hf p ?_))
    exact List.all_eq_true.1 hc.1.1 p hp
  | @val o rest k Γ b out v uses gs h hr ih =>
    intro Δ hF hO hΔ hkn sh hc
    have hkb : Nat.beq k ops.size = false := by
      cases hb : Nat.beq k ops.size
      · rfl
      · have := Nat.eq_of_beq_eq_true hb; rw [List.length_cons] at hkn; omega
    simp only [chkAll, Bool.and_eq_true, hkb, cond_false] at hc
    refine .val v uses hc.1.1 (fun vs w hK hS hf => ?_) (ih Δ hF hO hΔ (by rw [List.length_cons] at hkn; omega) _ hc.2)
    obtain ⟨x, hx, hw⟩ := h vs w hK hS (fun p hp => hF _ _ _ (hf p hp))
    intro K hKK
    have hx' : Region.wanted o (yielded ops (b vs).tmps) = x := by
      rcases hx with hx | ⟨rfl, hx⟩
      · exact want_of hx hc.1.2.1
      · exact unasked_of hx hc.1.2.1
    rw [hx']
    exact hw K (fun w' hu => hKK v w' ⟨rfl, Keeps.of_up hu⟩)
  | @op o rest k Γ b out F own uses eats deps gs hd hs h hr ih =>
    intro Δ hF hO hΔ hkn sh hc
    have hkb : Nat.beq k ops.size = false := by
      cases hb : Nat.beq k ops.size
      · rfl
      · have := Nat.eq_of_beq_eq_true hb; rw [List.length_cons] at hkn; omega
    simp only [chkAll, Bool.and_eq_true, hkb, cond_false] at hc
    have hlt : k < ops.size := by rw [List.length_cons] at hkn; omega
    have hne : ∀ e ∈ Δ, Nat.beq e.idx k = false := fun e he => by
      cases hb : Nat.beq e.idx k
      · rfl
      · have := Nat.eq_of_beq_eq_true hb; have := hΔ e he; omega
    have e1 : (Δ ++ Γ) ++ [(⟨k, F, own⟩ : Ent)] = Δ ++ (Γ ++ [⟨k, F, own⟩]) := List.append_assoc _ _ _
    have fofΔ : ∀ (Δ : List Ent), (∀ e ∈ Δ, Nat.beq e.idx k = false) → ∀ (Z : List Ent) (vs : Vs) (w : World), Fof (Δ ++ Z) k vs w ↔ Fof Z k vs w := by
      intro Δ hne Z vs w
      induction Δ with
      | nil => rfl
      | cons e r ih2 =>
        rw [List.cons_append, Fof, hne e List.mem_cons_self, cond_false]
        exact ih2 (fun e he => hne e (List.mem_cons_of_mem _ he))
    have hr' := ih Δ ?_ ?_ hΔ (by rw [List.length_cons] at hkn; omega) _ hc.2
    · refine .op F own uses eats hc.1.1 (fun vs vs' he => hd vs vs' fun i hi => he i ?_) (fun vs w w' hg hst => hs _ _ _ hg hst) ?_ (by rw [e1]; exact hr')
      · rcases List.mem_cons.1 hi with hi | hi
        · exact .inl hi
        · exact .inr (List.all_eq_true.1 hc.1.2.2 i hi)
      intro vs w hK hS hf K hKK
      obtain ⟨x, hx, hw⟩ := h vs w hK hS (fun p hp => hF _ _ _ (hf p hp))
      rw [want_of hx hc.1.2.1]
      exact hw K (fun v w' ⟨h1, h2, h3⟩ => hKK v w' ⟨h1, ⟨h2.os, h2.tape, h2.output, h2.size, fun g hgl hgn => h2.block g hgl (fun ⟨p, hp, hg⟩ => hgn ⟨p, hp, hO _ _ _ hg⟩)⟩, fun g hg =>
        ⟨(h3 g hg).1, (h3 g hg).2.imp id fun ⟨p, hp, hg⟩ => ⟨p, hp, hO _ _ _ hg⟩⟩⟩)
    · -- facts of the longer row
      have split : ∀ (Γ : List Ent) (p : Nat) (vs : Vs) (w : World) (e : Ent), Fof (Γ ++ [e]) p vs w ↔ (Fof Γ p vs w ∧ ((∀ x ∈ Γ, Nat.beq x.idx p = false) → Nat.beq e.idx p = true → e.F vs w)) := by
        intro Γ p vs w e
        induction Γ with
        | nil => simp only [List.nil_append, Fof]; cases Nat.beq e.idx p <;> simp
        | cons x r ih2 =>
          simp only [List.cons_append, Fof]
          cases hb : Nat.beq x.idx p
          · simp only [cond_false]; rw [ih2]; simp [hb]
          · simp only [cond_true]
            constructor
            · intro hx; exact ⟨hx, fun hall => by have := hall x List.mem_cons_self; rw [hb] at this; cases this⟩
            · exact fun hx => hx.1
      intro p vs w hf
      rw [← e1] at hf
      have h1 := (split (Δ ++ Γ) p vs w _).1 hf
      refine (split Γ p vs w _).2 ⟨hF p vs w h1.1, fun hall hb => ?_⟩
      refine h1.2 (fun x hx => ?_) hb
      rcases List.mem_append.1 hx with hx | hx
      · have hb' : k = p := Nat.eq_of_beq_eq_true hb
        rw [← hb']; exact hne x hx
      · exact hall x hx
    · have split : ∀ (Γ : List Ent) (p : Nat) (vs : Vs) (g : Nat) (e : Ent), Oof (Γ ++ [e]) p vs g ↔ (Oof Γ p vs g ∨ ((∀ x ∈ Γ, Nat.beq x.idx p = false) ∧ Nat.beq e.idx p = true ∧ e.own vs g)) := by
        intro Γ p vs g e
        induction Γ with
        | nil => simp only [List.nil_append, Oof]; cases Nat.beq e.idx p <;> simp
        | cons x r ih2 =>
          simp only [List.cons_append, Oof]
          cases hb : Nat.beq x.idx p
          · simp only [cond_false]; rw [ih2]; simp [hb]
          · simp only [cond_true]
            constructor
            · intro hx; exact .inl hx
            · rintro (hx | ⟨hall, _⟩)
              · exact hx
              · have := hall x List.mem_cons_self; rw [hb] at this; cases this
      intro p vs g hf
      rw [← e1]
      rcases (split Γ p vs g _).1 hf with h1 | ⟨h1, h2, h3⟩
      · exact (split (Δ ++ Γ) p vs g _).2 (.inl (hO p vs g h1))
      · refine (split (Δ ++ Γ) p vs g _).2 (.inr ⟨fun x hx => ?_, h2, h3⟩)
        rcases List.mem_append.1 hx with hx | hx
        · have hb' : k = p := Nat.eq_of_beq_eq_true h2
          rw [← hb']; exact hne x hx
        · exact h1 x hx

/-! ### What a walk types -/
def Fall (Γ : List Ent) : List Nat → Vs → World → Prop
  | [], _, _ => True
  | p :: r, vs, w => Fof Γ p vs w ∧ Fall Γ r vs w
theorem Fall.mk {Γ : List Ent} {vs : Vs} {w : World} : ∀ {l : List Nat}, (∀ p ∈ l, Fof Γ p vs w) → Fall Γ l vs w
  | [], _ => trivial
  | p :: r, h => ⟨h p List.mem_cons_self, Fall.mk fun q hq => h q (List.mem_cons_of_mem _ hq)⟩

/-- the block that a slice or a pointer leads to -/
def ob (v : Value) (g : Nat) : Prop := match v with
  | .slice (some a) _ _ => a.block = g
  | .pointer (some a) => a.block = g
  | _ => False

section
variable {P : Program} {QN : Act → World → Prop} {X0 : Nat → Prop} {w0 : World} {S : World → Prop} {o : Oper} {rest : List Oper} {k : Nat} {Γ : List Ent} {b : Vs → Act} {out : List Out}
/-- all have come up -/
theorem RK.fin (live : List Nat) (h : ∀ vs w, Keeps X0 w0 w → S w → Fall Γ live vs w → QN (b vs) w) : RK P QN X0 w0 S [] k Γ b [⟨k, live, [], none, []⟩] :=
  .done live fun vs w hK hS hf => h vs w hK hS (Fall.mk hf)
/-- an operation that yields v and leaves memory as it is -/
theorem RK.ok {v : Value} (h : ∀ vs w, S w → (execOp (b vs).eval o).run P w = .ok (.value v) w) (hg : o.guard = none) (hr : RK P QN X0 w0 S rest (k + 1) Γ (fun vs => (b vs).put o.dst v) out) : RK P QN X0 w0 S (o :: rest) k Γ b (⟨k, [], [], none, []⟩ :: out) :=
  .val v [] none (fun vs w _ hS _ => ⟨true, .inl (by simp only [Want, hg]), fun K hK => by
    rw [if_pos rfl, Oper.wp, h vs w hS]
    exact hK.out w (Below.refl _ _)⟩) hr
/-- the same, from what is known of those in 'uses' -/
theorem RK.okU (uses : List Nat) {v : Value} (h : ∀ vs w, S w → Fall Γ uses vs w → (execOp (b vs).eval o).run P w = .ok (.value v) w) (hg : o.guard = none) (hr : RK P QN X0 w0 S rest (k + 1) Γ (fun vs => (b vs).put o.dst v) out) : RK P QN X0 w0 S (o :: rest) k Γ b (⟨k, uses, [], none, []⟩ :: out) :=
  .val v uses none (fun vs w _ hS hf => ⟨true, .inl (by simp only [Want, hg]), fun K hK => by
    rw [if_pos rfl, Oper.wp, h vs w hS (Fall.mk hf)]
    exact hK.out w (Below.refl _ _)⟩) hr
/-- guarded, and asked -/
theorem RK.gok {g t : Nat} {x : Bool} {v : Value} (h : ∀ vs w, S w → (execOp (b vs).eval o).run P w = .ok (.value v) w) (hg : o.guard = some (g, x)) (ht : ∀ vs, (b vs).tmps[t]? = some (.bool x)) (hr : RK P QN X0 w0 S rest (k + 1) Γ (fun vs => (b vs).put o.dst v) out) : RK P QN X0 w0 S (o :: rest) k Γ b (⟨k, [], [], some (g, t), []⟩ :: out) :=
  .val v [] (some (g, t)) (fun vs w _ hS _ => ⟨true, .inl (by simp only [Want, hg]; exact ⟨trivial, x, ht vs, by cases x <;> rfl⟩), fun K hK => by
    rw [if_pos rfl, Oper.wp, h vs w hS]
    exact hK.out w (Below.refl _ _)⟩) hr
/-- guarded, and not asked -/
theorem RK.gno {g t : Nat} {x y : Bool} (hg : o.guard = some (g, x)) (ht : ∀ vs, (b vs).tmps[t]? = some (.bool y)) (hxy : (y == x) = false) (hr : RK P QN X0 w0 S rest (k + 1) Γ (fun vs => (b vs).put o.dst undef) out) : RK P QN X0 w0 S (o :: rest) k Γ b (⟨k, [], [], some (g, t), []⟩ :: out) :=
  .val undef [] (some (g, t)) (fun vs w _ hS _ => ⟨false, .inl (by simp only [Want, hg]; exact ⟨trivial, y, ht vs, hxy.symm⟩), fun K hK => by
    rw [if_neg (by simp)]
    exact hK.out w (Below.refl _ _)⟩) hr
/-- guarded by one that was not asked itself -/
theorem RK.gun {g t : Nat} {x : Bool} (hg : o.guard = some (g, x)) (ht : ∀ vs, (b vs).tmps[t]? = some undef) (hr : RK P QN X0 w0 S rest (k + 1) Γ (fun vs => (b vs).put o.dst undef) out) : RK P QN X0 w0 S (o :: rest) k Γ b (⟨k, [], [], some (g, t), []⟩ :: out) :=
  .val undef [] (some (g, t)) (fun vs w _ hS _ => ⟨false, .inr ⟨rfl, by simp only [Unasked, hg]; exact ⟨trivial, ht vs⟩⟩, fun K hK => by
    rw [if_neg (by simp)]
    exact hK.out w (Below.refl _ _)⟩) hr
/-- a call (or whatever makes memory and changes none) that yields v -/
theorem RK.call (v : Value) (uses : List Nat) (hg : o.guard = none)
    (h : ∀ vs w, Keeps X0 w0 w → S w → Fall Γ uses vs w → ∀ K : Act → World → Prop, Shut (∀ w', Below w.heap.size w w' → K ((b vs).put o.dst v) w') → o.wp P (b vs) w K (fun _ _ _ => False))
    (hr : RK P QN X0 w0 S rest (k + 1) Γ (fun vs => (b vs).put o.dst v) out) : RK P QN X0 w0 S (o :: rest) k Γ b (⟨k, uses, [], none, []⟩ :: out) :=
  .val v uses none (fun vs w hK hS hf => ⟨true, .inl (by simp only [Want, hg]), fun K hKK => by
    rw [if_pos rfl]
    exact h vs w hK hS (Fall.mk hf) K hKK⟩) hr
/-- the same, guarded and asked -/
theorem RK.gcall {g t : Nat} {x : Bool} (v : Value) (uses : List Nat) (hg : o.guard = some (g, x)) (ht : ∀ vs, (b vs).tmps[t]? = some (.bool x))
    (h : ∀ vs w, Keeps X0 w0 w → S w → Fall Γ uses vs w → ∀ K : Act → World → Prop, Shut (∀ w', Below w.heap.size w w' → K ((b vs).put o.dst v) w') → o.wp P (b vs) w K (fun _ _ _ => False))
    (hr : RK P QN X0 w0 S rest (k + 1) Γ (fun vs => (b vs).put o.dst v) out) : RK P QN X0 w0 S (o :: rest) k Γ b (⟨k, uses, [], some (g, t), []⟩ :: out) :=
  .val v uses (some (g, t)) (fun vs w hK hS hf => ⟨true, .inl (by simp only [Want, hg]; exact ⟨trivial, x, ht vs, by cases x <;> rfl⟩), fun K hKK => by
    rw [if_pos rfl]
    exact h vs w hK hS (Fall.mk hf) K hKK⟩) hr
/-- an operation whose value meets G behind it; it may own blocks -/
theorem RK.opn (G : Value → World → Prop) (own : Value → Nat → Prop) (uses eats : List Nat)
    (hs : ∀ v w w', G v w → Sta (fun g => (g < w0.heap.size ∧ ¬ X0 g) ∨ own v g) w w' → G v w') (hg : o.guard = none)
    (h : ∀ vs w, Keeps X0 w0 w → S w → Fall Γ uses vs w → ∀ K : Act → World → Prop, Shut (∀ v w', G v w' → Keeps (fun g => ∃ p ∈ eats, Oof Γ p vs g) w w' → (∀ g, own v g → g < w'.heap.size ∧ (w.heap.size ≤ g ∨ ∃ p ∈ eats, Oof Γ p vs g)) → K ((b vs).put o.dst v) w') → o.wp P (b vs) w K (fun _ _ _ => False))
    (hr : RK P QN X0 w0 S rest (k + 1) (Γ ++ [⟨k, fun vs => G (vs k), fun vs => own (vs k)⟩]) (fun vs => (b vs).put o.dst (vs k)) out) : RK P QN X0 w0 S (o :: rest) k Γ b (⟨k, uses, eats, none, []⟩ :: out) :=
  .op (fun vs => G (vs k)) (fun vs => own (vs k)) uses eats [] none (fun vs vs' he => by rw [he k List.mem_cons_self]; exact ⟨rfl, rfl⟩) (fun vs w w' hg hst => hs _ _ _ hg hst) (fun vs w hK hS hf => ⟨true, by simp only [Want, hg], fun K hKK => by
    rw [if_pos rfl]
    refine h vs w hK hS (Fall.mk hf) K (fun v w' h1 h2 h3 => hKK v w' ⟨?_, h2, fun g hg => h3 g ?_⟩)
    · show G (upd vs k v k) w'
      rw [upd_same]; exact h1
    · have hg' : own (upd vs k v k) g := hg
      rwa [upd_same] at hg'⟩) hr
/-- the same; what is known speaks of the values of those in 'deps' too -/
theorem RK.opD (F : Vs → World → Prop) (own : Vs → Nat → Prop) (uses eats deps : List Nat) (hd : ∀ vs vs' : Vs, (∀ i ∈ k :: deps, vs i = vs' i) → F vs = F vs' ∧ own vs = own vs')
    (hs : ∀ vs w w', F vs w → Sta (fun g => (g < w0.heap.size ∧ ¬ X0 g) ∨ own vs g) w w' → F vs w') (hg : o.guard = none)
    (h : ∀ vs w, Keeps X0 w0 w → S w → Fall Γ uses vs w → ∀ K : Act → World → Prop, Shut (∀ v w', F (upd vs k v) w' → Keeps (fun g => ∃ p ∈ eats, Oof Γ p vs g) w w' → (∀ g, own (upd vs k v) g → g < w'.heap.size ∧ (w.heap.size ≤ g ∨ ∃ p ∈ eats, Oof Γ p vs g)) → K ((b vs).put o.dst v) w') → o.wp P (b vs) w K (fun _ _ _ => False))
    (hr : RK P QN X0 w0 S rest (k + 1) (Γ ++ [⟨k, F, own⟩]) (fun vs => (b vs).put o.dst (vs k)) out) : RK P QN X0 w0 S (o :: rest) k Γ b (⟨k, uses, eats, none, deps⟩ :: out) :=
  .op F own uses eats deps none hd hs (fun vs w hK hS hf => ⟨true, by simp only [Want, hg], fun K hKK => by
    rw [if_pos rfl]
    exact h vs w hK hS (Fall.mk hf) K (fun v w' h1 h2 h3 => hKK v w' ⟨h1, h2, h3⟩)⟩) hr
end

section
variable {P : Program} {l : List Oper} {Q : Exit → Act → World → Prop} {a : Act} {w : World} {id : Nat} {out : List Out}
theorem region_up (S : World → Prop) (hm : P.follows .mixedOrders = true) (hg : globChk l.toArray = true) (hS : ∀ w1, Below w.heap.size w w1 → S w1)
    (h : ∀ QN : Act → World → Prop, Shut (∀ a w', Q .normal a w' → QN a w') → RK P QN (fun _ => False) w.drew S l 0 [] (fun _ => a) out) (hc : chkAll l.toArray [] out = true) : (Code.region id l.toArray true).wp P Q a w := by
  refine wp_region_inv S (fun _ => False) (fun _ => True) hm hg (fun g hg => hg.elim) trivial (fun _ _ _ _ => trivial) (fun w1 hK => hS w1 ?_) (show ROK P l.toArray Q (fun _ => False) w.drew S l 0 [] [G0 l.toArray (fun _ => False) (fun _ => True)] (fun _ => a) from ?_)
  · have := hK.up
    exact ⟨this.os, this.tape, this.output, this.size, this.block⟩
  · exact RK.rok (fun a w h => h) (h (fun a w' => Q .normal a w') (fun a w' h => h)) [G0 l.toArray (fun _ => False) (fun _ => True)]
      (fun p vs w h => by
        by_cases e : l.toArray.size = p
        · have h1 : Fof ([] : List Ent) p vs w := trivial
          exact h1
        · exact trivial)
      (fun p vs g h => (h : False).elim) (fun e he => by simp only [List.mem_singleton] at he; subst he; exact Nat.le_refl _) (by simp) [] hc
/-- X0: blocks that the region may write (rows of the call's own); F0: what is known of them at its beginning; number 'n' in 'uses' and 'eats' -/
theorem region_own (n : Nat) (S : World → Prop) (X0 : Nat → Prop) (F0 : World → Prop) (hn : l.length = n) (hm : P.follows .mixedOrders = true) (hg : globChk l.toArray = true) (hX : ∀ g, X0 g → g < w.heap.size) (hF : F0 w.drew)
    (hF0 : ∀ w1 w2, F0 w1 → Sta (fun g => (g < w.heap.size ∧ ¬ X0 g) ∨ X0 g) w1 w2 → F0 w2) (hS : ∀ w1, Keeps X0 w.drew w1 → S w1)
    (h : ∀ QN : Act → World → Prop, Shut (∀ a w', Q .normal a w' → QN a w') → RK P QN X0 w.drew S l 0 [⟨n, fun _ => F0, fun _ => X0⟩] (fun _ => a) out) (hc : chkAll l.toArray [] out = true) : (Code.region id l.toArray true).wp P Q a w := by
  subst hn
  refine wp_region_inv S X0 F0 hm hg hX hF hF0 hS (show ROK P l.toArray Q X0 w.drew S l 0 [] [⟨l.length, fun _ => F0, fun _ => X0⟩] (fun _ => a) from ?_)
  exact RK.rok (Δ := []) (fun a w h => h) (h (fun a w' => Q .normal a w') (fun a w' h => h)) (fun p vs w h => h) (fun p vs g h => h) (fun e he => by cases he) (by simp) [] hc
end
end Go.Proofs.Ytnjmekjaingniaa.Rg
