/-
  Texts of this claim, joined: Base, Open, Item, ItemW1, Num, NumW1, NumW2, NumW3, ItemW2, ItemW3, ItemW4, NumLaw, ItemW6, ItemW7.
-/
import Derived.Test.YtfmjgkfblejknaaGreatRows
import Derived.WalkKit
import Derived.WalkSpells
import Derived.WalkLawsBesides
import Derived.Lib.Hide
import Derived.Deep.Draws
import Derived.Deep.AppendLies
import Derived.Maps.AppendAt
import Derived.RegionTactic
import Derived.Laws.MakeOwn
import Derived.ProofKit
import Derived.OpenShut
import Derived.ShutString
import Derived.ChangeOld
import Derived.Deep.Slices
import Derived.Deep.Fields
import Derived.Deep.RegionHeld3
import Derived.Deep.QuietTactic
import Derived.BigQuiet
import Derived.Deep.RegionWith
import Derived.Deep.DrawnRows
/-
  Words for memory that the walks share: a slice that reads as a list of values, worlds that only grow, bytes and numbers as values. No program is named here.
-/
namespace Go.Proofs.YtfmjgkfblejknaaGreat
open Go.RowKit
set_option linter.unusedVariables false

/-! ### Worlds that only grow -/

/-- Nothing that is there in w has turned in w'. -/
abbrev Up (w w' : World) : Prop := Below w.heap.size w w'
theorem Up.refl (w : World) : Up w w := Below.refl _ _
theorem Up.trans {a b c : World} (h : Up a b) (k : Up b c) : Up a c := Below.trans h (k.mono h.size)
theorem Up.drew {a w : World} (h : Up a w) : Up a w.drew := Below.drew h
theorem Up.drewN {a w : World} (h : Up a w) (n : Nat) : Up a (w.drewN n) := ⟨h.os, h.tape, h.output, h.size, h.block⟩
theorem Up.alloc {a w : World} (h : Up a w) (o : Obj) : Up a (w.alloc o) := Below.alloc h h.size o
theorem Up.set_ {a w : World} (h : Up a w) {p : Addr} (hp : a.heap.size ≤ p.block) (u : Value) : Up a (w.setCell p u) := Below.setCell h hp u
theorem Up.grown {a w w' : World} {row : Option Nat} (h : Up a w) (hg : w.grownBy w' row) (hr : ∀ k, row = some k → a.heap.size ≤ k) : Up a w' := Below.grown h hg h.size hr

/-! ### A slice that reads as a list of cells -/

/-- The slice with address A and n elements of sz cells each holds the cells xs, in a block below B. -/
def Rd (w : World) (B sz : Nat) (A : Option Addr) (n : Nat) (xs : List Value) : Prop :=
  xs.length = n * sz ∧ (0 < n → ∃ b o, A = some ⟨b, o, none⟩ ∧ b < B ∧ ∀ j u, xs[j]? = some u → w.cell? ⟨b, o + j, none⟩ = some u)

section
variable {w w' : World} {B B' sz n : Nat} {A : Option Addr} {xs : List Value}
theorem Rd.empty : Rd w B sz A 0 [] := ⟨by simp, fun h => absurd h (by omega)⟩
theorem Rd.len (h : Rd w B sz A n xs) : xs.length = n * sz := h.1
theorem Rd.keep (h : Rd w B sz A n xs) (hk : ∀ p : Addr, p.block < B → w'.cell? p = w.cell? p) : Rd w' B sz A n xs :=
  ⟨h.1, fun hn => by
    obtain ⟨b, o, e, hb, hc⟩ := h.2 hn
    exact ⟨b, o, e, hb, fun j u hu => (hk _ hb).trans (hc j u hu)⟩⟩
theorem Rd.mono (h : Rd w B sz A n xs) (hB : B ≤ B') : Rd w B' sz A n xs :=
  ⟨h.1, fun hn => by
    obtain ⟨b, o, e, hb, hc⟩ := h.2 hn
    exact ⟨b, o, e, by omega, hc⟩⟩
theorem Rd.below (h : Rd w B sz A n xs) (hb : Below B w w') : Rd w' B sz A n xs := h.keep fun _ hp => hb.cell hp
theorem Rd.stay (h : Rd w B sz A n xs) (hB : B ≤ w.heap.size) (hb : Up w w') : Rd w' B sz A n xs := h.below (hb.mono hB)
theorem Rd.up (h : Rd w w.heap.size sz A n xs) (hb : Up w w') : Rd w' w'.heap.size sz A n xs := (h.below hb).mono hb.size
theorem Rd.drew (h : Rd w B sz A n xs) : Rd w.drew B sz A n xs := h
theorem Rd.drewN (h : Rd w B sz A n xs) (k : Nat) : Rd (w.drewN k) B sz A n xs := h
theorem Rd.alloc (h : Rd w B sz A n xs) (hB : B ≤ w.heap.size) (o : Obj) : Rd (w.alloc o) B sz A n xs := h.keep fun p hp => World.cell?_alloc_lt w o p (by omega)
theorem Rd.set_ (h : Rd w B sz A n xs) {p : Addr} (hB : B ≤ p.block) (u : Value) : Rd (w.setCell p u) B sz A n xs :=
  h.keep fun q hq => World.cell?_setCell_other w p q u (fun e => by subst e; omega)
theorem Rd.grown (h : Rd w B sz A n xs) {row : Option Nat} (hg : w.grownBy w' row) (hB : B ≤ w.heap.size) (hr : ∀ g, row = some g → B ≤ g) : Rd w' B sz A n xs :=
  h.keep fun p hp => World.cell?_of_block (hg.block p.block (by omega) (fun e => by have := hr _ e.symm; omega))
/-- behind an append: a block that is not the one that was written -/
theorem Rd.far {g o : Nat} (h : Rd w B sz (some ⟨g, o, none⟩) n xs) (hn : 0 < n) {row : Option Nat} (hg : w.grownBy w' row) (hlt : g < w.heap.size) (hne : some g ≠ row) : Rd w' B sz (some ⟨g, o, none⟩) n xs :=
  ⟨h.1, fun _ => by
    obtain ⟨b, o', e, hb, hc⟩ := h.2 hn
    injection e with e
    injection e with e1 e2
    subst e1; subst e2
    exact ⟨g, o, rfl, hb, fun j u hu => (World.cell?_of_block (hg.block g hlt hne)).trans (hc j u hu)⟩⟩
/-- s[k:] -/
theorem Rd.from_ (h : Rd w B sz A n xs) {k cap : Nat} (hk : k ≤ n) (hc : n ≤ cap) : Rd w B sz (if cap = k then A else A.map (·.add (k * sz))) (n - k) (xs.drop (k * sz)) := by
  refine ⟨by rw [List.length_drop, h.1, Nat.sub_mul], fun hn => ?_⟩
  obtain ⟨b, o, rfl, hb, hcell⟩ := h.2 (by omega)
  rw [if_neg (by omega)]
  refine ⟨b, o + k * sz, ?_, hb, fun j u hu => ?_⟩
  · simp only [Option.map_some, Addr.add]
    split
    · rename_i h0; simp [h0]
    · rfl
  · rw [Nat.add_assoc]
    exact hcell _ u (by rw [← hu, List.getElem?_drop])
/-- s[:k] -/
theorem Rd.to_ (h : Rd w B sz A n xs) {k : Nat} (hk : k ≤ n) : Rd w B sz A k (xs.take (k * sz)) := by
  refine ⟨by rw [List.length_take, h.1]; exact Nat.min_eq_left (Nat.mul_le_mul_right _ hk), fun hn => ?_⟩
  obtain ⟨b, o, rfl, hb, hcell⟩ := h.2 (by omega)
  refine ⟨b, o, rfl, hb, fun j u hu => hcell j u ?_⟩
  rw [List.getElem?_take] at hu
  split at hu
  · exact hu
  · cases hu
theorem Rd.own {base : Nat} {e : TypeId} {c : Nat} (h : w.ownsRow base e sz (.slice A n c) n xs) : Rd w w.heap.size sz A n xs := by
  refine ⟨h.1, fun hn => ?_⟩
  rcases h.2 with ⟨hv, h0⟩ | ⟨g, cap, cur, hv, hg, hh, hnc, hcm, hcs, ht⟩
  · omega
  · have hA : A = some ⟨g, 0, none⟩ := by injection hv
    subst hA
    refine ⟨g, 0, rfl, (Array.getElem?_eq_some_iff.1 hh).1, fun j u hu => ?_⟩
    have := h.cells (g := g) rfl j u hu
    have e : (⟨g, 0, none⟩ : Addr).add j = ⟨g, 0 + j, none⟩ := by unfold Addr.add; split <;> simp_all
    rwa [e] at this
end

theorem own_form {w : World} {base : Nat} {e : TypeId} {sz n : Nat} {v : Value} {xs : List Value} (h : w.ownsRow base e sz v n xs) : ∃ A c, v = .slice A n c := by
  rcases h.2 with ⟨rfl, rfl⟩ | ⟨g, cap, cur, rfl, _⟩
  · exact ⟨none, 0, rfl⟩
  · exact ⟨_, _, rfl⟩
theorem own_cap {w : World} {base : Nat} {e : TypeId} {sz n c : Nat} {A : Option Addr} {xs : List Value} (h : w.ownsRow base e sz (.slice A n c) n xs) : n ≤ c := by
  rcases h.2 with ⟨hv, rfl⟩ | ⟨g, cap, cur, hv, _, _, hn, _⟩
  · exact Nat.zero_le _
  · injection hv with _ _ hc; omega
theorem own_some {w : World} {base : Nat} {e : TypeId} {sz n c : Nat} {A : Option Addr} {xs : List Value} (h : w.ownsRow base e sz (.slice A n c) n xs) (hn : 0 < n) : ∃ g, A = some ⟨g, 0, none⟩ ∧ base ≤ g ∧ g < w.heap.size := by
  rcases h.2 with ⟨hv, rfl⟩ | ⟨g, cap, cur, hv, hb, hg, _⟩
  · omega
  · injection hv with hA _ _
    exact ⟨g, hA, hb, (Array.getElem?_eq_some_iff.1 hg).1⟩
theorem own_up {w w' : World} {base : Nat} {e : TypeId} {sz n : Nat} {v : Value} {xs : List Value} (h : w.ownsRow base e sz v n xs) (hu : Up w w') : w'.ownsRow base e sz v n xs := by
  refine ⟨h.1, ?_⟩
  rcases h.2 with h2 | ⟨g, cap, cur, hv, hg, hh, r⟩
  · exact .inl h2
  · exact .inr ⟨g, cap, cur, hv, hg, (hu.block g (Array.getElem?_eq_some_iff.1 hh).1).trans hh, r⟩
theorem own_base {w : World} {base base' : Nat} {e : TypeId} {sz n : Nat} {v : Value} {xs : List Value} (h : w.ownsRow base e sz v n xs) (hb : base' ≤ base) : w.ownsRow base' e sz v n xs := by
  refine ⟨h.1, ?_⟩
  rcases h.2 with h2 | ⟨g, cap, cur, hv, hg, r⟩
  · exact .inl h2
  · exact .inr ⟨g, cap, cur, hv, by omega, r⟩

/-! ### Bytes, numbers -/
def bv (b : UInt8) : Value := .int .u8 (b.toNat : Int)
def qv (n : UInt64) : Value := .int .u64 (n.toNat : Int)
def iv (n : Int64) : Value := .int .i64 n.toInt
def bvs (l : List UInt8) : List Value := l.map bv
def qvs (l : List UInt64) : List Value := l.map qv
theorem bvs_length (l : List UInt8) : (bvs l).length = l.length := by simp [bvs]
theorem qvs_length (l : List UInt64) : (qvs l).length = l.length := by simp [qvs]
theorem bvs_append (a b : List UInt8) : bvs (a ++ b) = bvs a ++ bvs b := by simp [bvs]
theorem qvs_append (a b : List UInt64) : qvs (a ++ b) = qvs a ++ qvs b := by simp [qvs]
theorem bvs_one (l : List UInt8) : ∀ u ∈ bvs l, u.oneCell' = true := by
  intro u hu; simp only [bvs, List.mem_map] at hu; obtain ⟨b, _, rfl⟩ := hu; rfl
theorem qvs_one (l : List UInt64) : ∀ u ∈ qvs l, u.oneCell' = true := by
  intro u hu; simp only [qvs, List.mem_map] at hu; obtain ⟨b, _, rfl⟩ := hu; rfl
theorem bv_ofNat (n : Nat) : bv (UInt8.ofNat n) = .int .u8 ((n % 256 : Nat) : Int) := by simp [bv]
theorem qv_ofNat (n : Nat) : qv (UInt64.ofNat n) = .int .u64 ((n % 18446744073709551616 : Nat) : Int) := by simp [qv]

/-- a text as a value -/
def str (l : List UInt8) : Value := .string ⟨l.toArray⟩

/-! ### append onto a row of the call's own -/
/-- what is known of a slice type: its elements' cells and bytes -/
structure SlT (P : Program) (t e : TypeId) (sz bytes : Nat) : Prop where
  ut : P.underlying t = some (.slice e)
  inf : ∃ i z, P.info? e = some i ∧ i.zero = some z ∧ i.size = sz ∧ i.bytes = bytes ∧ z.cells.size = sz
  pos : 0 < sz

theorem SlT.mk' {P : Program} {t e : TypeId} {sz bytes : Nat} {z : Value} (h : P.underlying t = some (.slice e)) (hi : (P.info? e).map (fun i => (i.zero, i.size, i.bytes)) = some (some z, sz, bytes)) (hz : z.cells.size = sz) (hs : 0 < sz) : SlT P t e sz bytes := by
  obtain ⟨i, h1, h2, h3, h4⟩ := info_parts hi
  exact ⟨h, ⟨i, z, h1, h2, h3, h4, hz⟩, hs⟩

section
variable {P : Program} (w : World)
theorem run_append_rd {t e : TypeId} {sz bytes : Nat} (hT : SlT P t e sz bytes) (ty : TypeId) {base n B m c : Nat} {v : Value} {xs news : List Value} {A : Option Addr}
    (hown : w.ownsRow base e sz v n xs) (hr : Rd w B sz A m news) (h1 : ∀ u ∈ news, u.oneCell' = true)
    (hb : n + m ≤ 4611686018427387903) (hbytes : (n + m) * bytes ≤ 140737488355328) (hbase : base ≤ w.heap.size) :
    ∃ v' w', (Builtin.append_ #[t, t] ty #[v, .slice A m c]).run P w = .ok v' w' ∧ w'.ownsRow base e sz v' (n + m) (xs ++ news) ∧ w.grownBy w' v.ownBlock ∧
      (v'.ownBlock = v.ownBlock ∨ v'.ownBlock = some w.heap.size) := by
  obtain ⟨ht, ⟨i, z, hi, hz, hsize, hby, hzs⟩, hsz⟩ := hT
  have h63 : n + m ≤ maxLen := by simp only [maxLen]; omega
  rcases A with _ | ad
  · have hm : m = 0 := by
      rcases Nat.eq_zero_or_pos m with h0 | h0
      · exact h0
      · obtain ⟨b, o, h, _⟩ := hr.2 h0
        cases h
    subst hm
    have hn : news = [] := List.eq_nil_of_length_eq_zero (by simpa using hr.1)
    subst hn
    refine ⟨v, w, ?_, by simpa using hown, ⟨rfl, rfl, rfl, Nat.le_refl _, fun _ _ _ => rfl⟩, .inl rfl⟩
    rcases hown.2 with ⟨rfl, rfl⟩ | ⟨g, cap, cur, rfl, _, _, hnc, _⟩
    · simp [Builtin.append_, run_underlying ht, sizeOf, typeInfo, hi, Builtin.lenOf, Builtin.firstCells]
    · simp [Builtin.append_, run_underlying ht, sizeOf, typeInfo, hi, Builtin.lenOf, Builtin.firstCells, hnc, storeCells]
  · have hcells : ∀ j u, news[j]? = some u → w.cell? (ad.add j) = some u := by
      intro j u hu
      rcases Nat.eq_zero_or_pos m with h0 | h0
      · subst h0
        have hn : news = [] := List.eq_nil_of_length_eq_zero (by simpa using hr.1)
        subst hn
        simp at hu
      · obtain ⟨b, o, h, _, hc⟩ := hr.2 h0
        injection h with h
        subst h
        have e : (⟨b, o, none⟩ : Addr).add j = ⟨b, o + j, none⟩ := by unfold Addr.add; split <;> simp_all
        rw [e]
        exact hc j u hu
    obtain ⟨v', w', hrun, h2, h3, _, h5⟩ := run_append_own_at (P := P) w base t ty e i z sz bytes ht hi hz hsize hby hzs hsz v n xs hown ad m c news hr.1 hcells h1 h63 hbytes hbase
    exact ⟨v', w', hrun, h2, h3, h5⟩

theorem wp_append_rd {o : Oper} {a : Act} {K : Act → World → Prop} {Q : Exit → Act → World → Prop} (s x : Operand) {t e : TypeId} {sz bytes : Nat} (hT : SlT P t e sz bytes)
    (ho : o.op = .call { callee := .builtin .append, args := #[s, x], argTypes := #[t, t] })
    {base n B m c : Nat} {v : Value} {xs news : List Value} {A : Option Addr} (hs : a.eval s = v) (hx : a.eval x = .slice A m c)
    (hown : w.ownsRow base e sz v n xs) (hr : Rd w B sz A m news) (h1 : ∀ u ∈ news, u.oneCell' = true)
    (hb : n + m ≤ 4611686018427387903) (hbytes : (n + m) * bytes ≤ 140737488355328) (hbase : base ≤ w.heap.size)
    (h : ∀ v' w', w'.ownsRow base e sz v' (n + m) (xs ++ news) → w.grownBy w' v.ownBlock → (v'.ownBlock = v.ownBlock ∨ v'.ownBlock = some w.heap.size) → K (a.put o.dst v') w') : o.wp P a w K Q := by
  obtain ⟨v', w', hrun, h2, h3, h4⟩ := run_append_rd (P := P) w hT o.type (c := c) hown hr h1 hb hbytes hbase
  unfold Oper.wp execOp
  simp only [ho, resolve, invoke, builtin, Sem.run_bind, Sem.run_pure, Result.andThen_ok, List.map_toArray, List.map_cons, List.map_nil, hs, hx, hrun]
  exact h v' w' h2 h3 h4

/-- 'append(s, x...)', s a row of the call's own. The order of what is asked: hT, the bounds of what is owned and what is read. -/
theorem wpList_append_rd {ops : Array Oper} {rest : List Oper} {o : Oper} {a : Act} {Q : Exit → Act → World → Prop} {s x : Operand} {t e : TypeId} {sz bytes : Nat} (hT : SlT P t e sz bytes)
    {base n B m c : Nat} {v : Value} {xs news : List Value} {A : Option Addr}
    (hown : w.ownsRow base e sz v n xs) (hr : Rd w B sz A m news) (h1 : ∀ u ∈ news, u.oneCell' = true)
    (hb : n + m ≤ 4611686018427387903) (hbytes : (n + m) * bytes ≤ 140737488355328) (hbase : base ≤ w.heap.size)
    (hgd : o.guard = none)
    (ho : o.op = .call { callee := .builtin .append, args := #[s, x], argTypes := #[t, t] })
    (hs : a.eval s = v) (hx : a.eval x = .slice A m c)
    (h : ∀ v' w', w'.ownsRow base e sz v' (n + m) (xs ++ news) → w.grownBy w' v.ownBlock → (v'.ownBlock = v.ownBlock ∨ v'.ownBlock = some w.heap.size) → wpList P ops Q rest (a.put o.dst v') w') : wpList P ops Q (o :: rest) a w :=
  wpList_plain hgd fun _ hK => wp_append_rd w s x hT ho hs hx hown hr h1 hb hbytes hbase fun v' w' h2 h3 h4 => hK _ _ (h v' w' h2 h3 h4)
end

/-- where s[k:] begins: kept shut in the walk -/
def cutA (A : Option Addr) (c k sz : Nat) : Option Addr := if c = k then A else A.map (·.add (k * sz))
theorem Rd.from_ownsRow {w : World} {base : Nat} {e : TypeId} {sz n : Nat} {v : Value} {xs : List Value} (h : w.ownsRow base e sz v n xs) : ∃ A c, v = .slice A n c ∧ Rd w w.heap.size sz A n xs := by
  rcases h.2 with ⟨rfl, rfl⟩ | ⟨g, cap, cur, rfl, _⟩
  · exact ⟨none, 0, rfl, Rd.own h⟩
  · exact ⟨_, _, rfl, Rd.own h⟩

theorem below_sets {B : Nat} {a : World} (b : Nat) (hb : B ≤ b) : ∀ (vs : List Value) (o : Nat) (w : World), Below B a w → Below B a (w.setCells b o vs)
  | [], _, _, h => h
  | v :: vs, o, w, h => below_sets b hb vs (o + 1) _ (Below.setCell (p := ⟨b, o, none⟩) h hb v)

/-- 'append(s[k:], x...)', s a row of the call's own: what it comes to reads so; of what was there only that row's spare places may have turned. -/
theorem wpList_append_cut {P : Program} (w : World) {ops : Array Oper} {rest : List Oper} {o : Oper} {a : Act} {Q : Exit → Act → World → Prop} {s x : Operand} {t e : TypeId} {sz bytes : Nat} (hT : SlT P t e sz bytes)
    {base n k B m c c2 : Nat} {xs news : List Value} {A A2 : Option Addr} (hown : w.ownsRow base e sz (.slice A n c) n xs) (hk : k ≤ n) (hr : Rd w B sz A2 m news) (hm : 0 < m) (h1 : ∀ u ∈ news, u.oneCell' = true)
    (hb : n + m ≤ 4611686018427387903) (hbytes : (n + m) * bytes ≤ 140737488355328) (hbase : base ≤ w.heap.size)
    (hgd : o.guard = none) (ho : o.op = .call { callee := .builtin .append, args := #[s, x], argTypes := #[t, t] })
    (hs : a.eval s = .slice (cutA A c k sz) (n - k) (c - k)) (hx : a.eval x = .slice A2 m c2)
    (h : ∀ A' c' w', Rd w' w'.heap.size sz A' (n - k + m) (xs.drop (k * sz) ++ news) → n - k + m ≤ c' → Below base w w' → wpList P ops Q rest (a.put o.dst (.slice A' (n - k + m) c')) w') : wpList P ops Q (o :: rest) a w := by
  obtain ⟨b2, o2, rfl, hb2, hc2⟩ := hr.2 hm
  have hbb : (n - k + m) * bytes ≤ 140737488355328 := Nat.le_trans (Nat.mul_le_mul_right _ (by omega)) hbytes
  have hnews : ∀ j u, news[j]? = some u → w.cell? ((⟨b2, o2, none⟩ : Addr).add j) = some u := fun j u hu => by
    have e : (⟨b2, o2, none⟩ : Addr).add j = ⟨b2, o2 + j, none⟩ := by unfold Addr.add; split <;> simp_all
    rw [e]; exact hc2 j u hu
  rcases hown.2 with ⟨hv, rfl⟩ | ⟨g, cap, cur, hv, hbg, hh, hnc, hcm, hcs, htake⟩
  · injection hv with hA _ hc
    subst hA; subst hc
    obtain rfl : k = 0 := by omega
    have hxs : xs = [] := List.eq_nil_of_length_eq_zero (by simpa using hown.1)
    subst hxs
    refine wpList_append_rd w hT (World.ownsRow_nil w w.heap.size e sz) hr h1 (by omega) (by simpa using hbb) (Nat.le_refl _) hgd ho (by rw [hs]; simp [cutA]) hx fun v' w' ho' hg' hat' => ?_
    obtain ⟨A', c', rfl, hrd⟩ := Rd.from_ownsRow ho'
    exact h A' c' w' (by simpa using hrd) (by have := own_cap ho'; omega) ((Below.refl base w).grown hg' hbase (by simp [Value.ownBlock]))
  · injection hv with hA _ hc
    subst hA; subst hc
    obtain ⟨ht, ⟨i, z, hi, hz, hsize, hby, hzs⟩, hsz⟩ := hT
    have hlen := hown.1
    have holds : ∀ off, off = (if c = k then 0 else k * sz) → ∀ j u, (xs.drop (k * sz))[j]? = some u → w.cell? ⟨g, off + j, none⟩ = some u := by
      intro off hoff j u hu
      rw [List.getElem?_drop] at hu
      have hjl := (List.getElem?_eq_some_iff.1 hu).1
      by_cases hck : c = k
      · have : k = n := by omega
        subst this; rw [hlen] at hjl; omega
      · rw [hoff, if_neg hck, hown.cellAt _ (by rw [← hlen]; exact hjl)]; exact hu
    have hcut : cutA (some ⟨g, 0, none⟩) c k sz = some ⟨g, if c = k then 0 else k * sz, none⟩ := by
      unfold cutA
      by_cases hck : c = k
      · simp [hck]
      · rw [if_neg hck, if_neg hck]
        simp only [Option.map_some, Addr.add]
        split
        · rename_i h0; simp [h0]
        · simp
    refine wpList_append_arg w hgd s x t ho e i z sz bytes ht hi hz hsize hby hzs hsz g (if c = k then 0 else k * sz) (n - k) (c - k) (xs.drop (k * sz)) (by rw [hs, hcut]) (by rw [List.length_drop, hlen, Nat.sub_mul]) (holds _ rfl)
      ⟨b2, o2, none⟩ m c2 news hx hr.1 hnews h1 ?_ (by simp only [maxLen]; omega) hbb ?_ ?_
    · intro hroom j hj
      have hck : ¬ c = k := by omega
      rw [if_neg hck]
      have e1 : k * sz + (n - k) * sz = n * sz := by rw [← Nat.add_mul]; congr 1; omega
      rw [e1]
      have hfit : n * sz + j < cur.size := by
        rw [hcs]
        have : (n + m) * sz ≤ c * sz := Nat.mul_le_mul_right _ (by omega)
        rw [Nat.add_mul] at this
        rw [hr.1] at hj; omega
      exact ⟨by rw [cell_of_row w g _ cur e (0, 0) hh]; simp [hfit], frozen_of_row w g _ cur e hh⟩
    · intro hroom
      have hck : ¬ c = k := by omega
      rw [if_neg hck]
      have e1 : k * sz + (n - k) * sz = n * sz := by rw [← Nat.add_mul]; congr 1; omega
      rw [e1]
      refine h _ _ _ ?_ (by omega) ?_
      · have hfit : n * sz + news.length ≤ cur.size := by
          rw [hcs, hr.1, ← Nat.add_mul]; exact Nat.mul_le_mul_right _ (by omega)
        refine ⟨by rw [List.length_append, List.length_drop, hlen, hr.1, Nat.add_mul, Nat.sub_mul], fun _ => ⟨g, k * sz, rfl, ?_, fun j u hu => ?_⟩⟩
        · exact Nat.lt_of_lt_of_le (Array.getElem?_eq_some_iff.1 hh).1 (below_sets g hbg news (n * sz) w (Below.refl base w)).size
        · rw [List.getElem?_append] at hu
          have hl : (xs.drop (k * sz)).length = n * sz - k * sz := by rw [List.length_drop, hlen]
          have hks : k * sz ≤ n * sz := Nat.mul_le_mul_right _ hk
          rw [hl] at hu
          by_cases hj : j < n * sz - k * sz
          · rw [if_pos hj, List.getElem?_drop] at hu
            rw [World.cell?_setCells_out g news (n * sz) w ⟨g, k * sz + j, none⟩ (fun _ _ => .inl (by simp only; omega))]
            rw [hown.cellAt _ (by omega)]; exact hu
          · rw [if_neg hj] at hu
            have e2 : k * sz + j = n * sz + (j - (n * sz - k * sz)) := by omega
            rw [e2]
            obtain ⟨hjn, hjv⟩ := List.getElem?_eq_some_iff.1 hu
            rw [World.cell?_setCells_in g news (n * sz) w (fun i hi => by rw [cell_of_row w g _ cur e (0, 0) hh]; simp; omega) _ hjn, ← hjv]
      · exact below_sets g hbg news _ _ (Below.refl base w)
    · intro hgrow v' w' ho' hg'
      obtain ⟨A', c', rfl, hrd⟩ := Rd.from_ownsRow ho'
      exact h A' c' w' hrd (own_cap ho') ((Below.refl base w).grown hg' hbase (by simp))

/-! ### Bytes of the call's own; texts -/
theorem bytesT : SlT Tryz.prog 22 5 1 1 := SlT.mk' Tryz.underlying22 (z := .int .u8 0) (by kernel_rfl) rfl (by decide)

/-- the slice is a row of the call's own (blocks from base on) that holds these bytes -/
def OwnB (w : World) (base : Nat) (A : Option Addr) (n c : Nat) (l : List UInt8) : Prop := w.ownsRow base 5 1 (.slice A n c) n (bvs l)
section
variable {w w' : World} {base n c : Nat} {A : Option Addr} {l : List UInt8} {q : List UInt64}
theorem OwnB.rd (h : OwnB w base A n c l) : Rd w w.heap.size 1 A n (bvs l) := Rd.own h
theorem OwnB.len (h : OwnB w base A n c l) : n = l.length := by have := h.1; simp only [bvs_length] at this; omega
theorem OwnB.up (h : OwnB w base A n c l) (hu : Up w w') : OwnB w' base A n c l := own_up h hu
theorem OwnB.cap (h : OwnB w base A n c l) : n ≤ c := own_cap h
theorem Rd.blen (h : Rd w base 1 A n (bvs l)) : n = l.length := by have := h.1; simp only [bvs_length] at this; omega
theorem Rd.qlen (h : Rd w base 1 A n (qvs q)) : n = q.length := by have := h.1; simp only [qvs_length] at this; omega
theorem Rd.byte (h : Rd w base 1 A n (bvs l)) {k : Nat} (hk : k < n) :
    ∃ b o, A = some ⟨b, o, none⟩ ∧ b < base ∧ w.cell? ⟨b, o + k, none⟩ = some (.int .u8 ((l.getD k 0).toNat : Int)) := by
  obtain ⟨b, o, e, hb, hc⟩ := h.2 (by omega)
  have hl : k < l.length := by have := h.blen; omega
  exact ⟨b, o, e, hb, hc k _ (by simp [bvs, bv, hl, List.getD])⟩
theorem Rd.num (h : Rd w base 1 A n (qvs q)) {k : Nat} (hk : k < n) :
    ∃ b o, A = some ⟨b, o, none⟩ ∧ b < base ∧ w.cell? ⟨b, o + k, none⟩ = some (.int .u64 ((q.getD k 0).toNat : Int)) := by
  obtain ⟨b, o, e, hb, hc⟩ := h.2 (by omega)
  have hl : k < q.length := by have := h.qlen; omega
  exact ⟨b, o, e, hb, hc k _ (by simp [qvs, qv, hl, List.getD])⟩
/-- numbers without sign as cells -/
def nvs (l : List Nat) : List Value := l.map fun (n : Nat) => Value.int .u64 (n : Int)
theorem nvs_length (l : List Nat) : (nvs l).length = l.length := by simp [nvs]
theorem Rd.nat {q : List Nat} (h : Rd w base 1 A n (nvs q)) {k : Nat} (hk : k < n) :
    ∃ b o, A = some ⟨b, o, none⟩ ∧ b < base ∧ w.cell? ⟨b, o + k, none⟩ = some (.int .u64 ((q.getD k 0 : Nat) : Int)) := by
  obtain ⟨b, o, e, hb, hc⟩ := h.2 (by omega)
  have hl : k < q.length := by have := h.1; rw [nvs_length] at this; omega
  exact ⟨b, o, e, hb, hc k _ (by simp [nvs, hl, List.getD])⟩
/-- s[k:] of bytes -/
theorem Rd.bfrom (h : Rd w base 1 A n (bvs l)) {k cap : Nat} (hk : k ≤ n) (hc : n ≤ cap) : Rd w base 1 (cutA A cap k 1) (n - k) (bvs (l.drop k)) := by
  have := h.from_ hk hc
  rw [Nat.mul_one] at this
  simpa [bvs, List.map_drop, cutA] using this
theorem Rd.bto (h : Rd w base 1 A n (bvs l)) {k : Nat} (hk : k ≤ n) : Rd w base 1 A k (bvs (l.take k)) := by
  have := h.to_ hk
  simpa [bvs, List.map_take] using this
end

theorem sizeOf_b (w : World) : (sizeOf 5).run Tryz.prog w = .ok 1 w := by
  obtain ⟨_, ⟨i, z, hi, _, hs, _⟩, _⟩ := bytesT
  simp [sizeOf, typeInfo, hi, hs]
theorem elem_b : Tryz.prog.elem 22 = 5 := by kernel_rfl
/-- s[l:] and s[l:h] of bytes, the beginning kept shut -/
theorem cut_from_b (w : World) (A : Option Addr) (n c : Nat) (kl : IntKind) (l : Int) (h0 : 0 ≤ l) (h1 : l ≤ n) :
    (Instr.slice 22 (.slice A n c) (some (.int kl l)) none none).run Tryz.prog w = .ok (.slice (cutA A c l.toNat 1) (n - l.toNat) (c - l.toNat)) w := by
  rw [run_slice_l w 22 A n c (by rw [elem_b]; exact Tryz.underlying22) kl l h0 h1, elem_b, sizeOf_b]
  simp [sliced, cutA]
theorem cut_lh_b (w : World) (A : Option Addr) (n c : Nat) (kl kh : IntKind) (l h : Int) (h0 : 0 ≤ l) (h1 : l ≤ h) (h2 : h ≤ c) :
    (Instr.slice 22 (.slice A n c) (some (.int kl l)) (some (.int kh h)) none).run Tryz.prog w = .ok (.slice (cutA A c l.toNat 1) (h.toNat - l.toNat) (c - l.toNat)) w := by
  rw [run_slice_lh w 22 A n c (by rw [elem_b]; exact Tryz.underlying22) kl kh l h h0 h1 h2, elem_b, sizeOf_b]
  simp [sliced, cutA]

/-- make([]byte, n) -/
def zb (n : Nat) : Array Value := (bvs (List.replicate n 0)).toArray
theorem zb_own (w : World) {base n : Nat} (hb : base ≤ w.heap.size) (hm : n ≤ 9223372036854775807) : OwnB (w.alloc (.cells (zb n) 5)) base (some ⟨w.heap.size, 0, none⟩) n n (List.replicate n 0) := by
  refine ⟨by simp [bvs], .inr ⟨w.heap.size, n, zb n, rfl, hb, heap_alloc_new w _, Nat.le_refl _, by simpa only [maxLen] using hm, by simp [zb, bvs], ?_⟩⟩
  simp [zb, bvs]
set_option maxRecDepth 100000 in
theorem make_b (w : World) (kl kc : IntKind) (l : Int) (h0 : 0 ≤ l) (h1 : l ≤ 140737488355328) :
    (Instr.makeSlice 22 (.int kl l) (.int kc l)).run Tryz.prog w = .ok (.slice (some ⟨w.heap.size, 0, none⟩) l.toNat l.toNat) (w.alloc (.cells (zb l.toNat) 5)) := by
  obtain ⟨i, hi, hz, hs, hby⟩ := info_parts (P := Tryz.prog) (e := 5) (z := .int .u8 0) (size := 1) (bytes := 1) (by kernel_rfl)
  rw [run_make w _ _ i _ bytesT.ut hi hz kl kc l l h0 (Int.le_refl _) (by rw [hby]; omega) (by omega)]
  congr 3
  apply Array.toList_inj.1
  rw [hs, Nat.mul_one]
  show (madeCells #[Value.int .u8 0] l.toNat).toList = _
  rw [toList_madeCells_one]
  simp [zb, bvs, bv]
/-- string(b) -/
theorem run_str {w : World} {B n : Nat} {A : Option Addr} {l : List UInt8} (c : Nat) (h : Rd w B 1 A n (bvs l)) : (convert 22 9 (.slice A n c)).run Tryz.prog w = .ok (.string ⟨l.toArray⟩) w := by
  have hn := h.blen
  subst hn
  by_cases h0 : 0 < l.length
  · obtain ⟨b, o, rfl, _, hc⟩ := h.2 h0
    refine run_convert_bytes_back w _ _ _ _ c l Tryz.underlying22 Tryz.underlying5 Tryz.underlying9 (fun j hj => ?_)
    have e : (⟨b, o, none⟩ : Addr).add j = ⟨b, o + j, none⟩ := by unfold Addr.add; split <;> simp_all
    rw [e]
    exact hc j _ (by simp [bvs, bv, hj])
  · have hl : l = [] := List.eq_nil_of_length_eq_zero (by omega)
    subst hl
    cases A with
    | none => exact run_convert_bytes_nil w _ _ Tryz.underlying22 Tryz.underlying5 0 c _ Tryz.underlying9
    | some a => exact run_convert_bytes_back w _ _ _ a c [] Tryz.underlying22 Tryz.underlying5 Tryz.underlying9 (fun j hj => by simp at hj)

/-- one new block, read from its head -/
theorem Rd.made (w : World) (cs : Array Value) (t : TypeId) {sz n : Nat} (hn : cs.size = n * sz) : Rd (w.alloc (.cells cs t)) (w.alloc (.cells cs t)).heap.size sz (some ⟨w.heap.size, 0, none⟩) n cs.toList := by
  refine ⟨by simpa using hn, fun _ => ⟨w.heap.size, 0, rfl, by simp, fun j v hj => ?_⟩⟩
  rw [World.cell?_alloc_at (w := w) cs t _ _ rfl]
  simpa using hj
/-- one value, boxed: 'append(s, u)' -/
theorem Rd.box (w : World) (u : Value) (t : TypeId) : Rd (w.alloc (.cells #[u] t)) (w.alloc (.cells #[u] t)).heap.size 1 (some ⟨w.heap.size, 0, none⟩) 1 [u] := Rd.made w #[u] t rfl
theorem Rd.boxb (w : World) {u : Value} (t : TypeId) {b : UInt8} (h : u = bv b) : Rd (w.alloc (.cells #[u] t)) (w.alloc (.cells #[u] t)).heap.size 1 (some ⟨w.heap.size, 0, none⟩) 1 (bvs [b]) := by subst h; exact Rd.box w _ t
theorem Rd.boxq (w : World) {u : Value} (t : TypeId) {b : UInt64} (h : u = qv b) : Rd (w.alloc (.cells #[u] t)) (w.alloc (.cells #[u] t)).heap.size 1 (some ⟨w.heap.size, 0, none⟩) 1 (qvs [b]) := by subst h; exact Rd.box w _ t
theorem Rd.boxb_at (w : World) {u : Value} (t : TypeId) {b : UInt8} {g : Nat} (hg : w.heap.size = g) (h : u = bv b) : Rd (w.alloc (.cells #[u] t)) (w.alloc (.cells #[u] t)).heap.size 1 (some ⟨g, 0, none⟩) 1 (bvs [b]) := by subst hg; exact Rd.boxb w t h
/-- a literal of bytes -/
theorem Rd.lit (w : World) (l : List UInt8) (cs : Array Value) (t : TypeId) (h : cs.toList = bvs l) : Rd (w.alloc (.cells cs t)) (w.alloc (.cells cs t)).heap.size 1 (some ⟨w.heap.size, 0, none⟩) l.length (bvs l) := by
  rw [← h]
  exact Rd.made w cs t (by have := congrArg List.length h; simpa [bvs] using this)
theorem Rd.lit_at (w : World) (l : List UInt8) (cs : Array Value) (t : TypeId) {g : Nat} (hg : w.heap.size = g) (h : cs.toList = bvs l) : Rd (w.alloc (.cells cs t)) (w.alloc (.cells cs t)).heap.size 1 (some ⟨g, 0, none⟩) l.length (bvs l) := by subst hg; exact Rd.lit w l cs t h

/-- a whole number's lowest byte -/
def byteOf (z : Int) : UInt8 := UInt8.ofNat (z % 256).toNat
theorem bv_byteOf (z : Int) : bv (byteOf z) = .int .u8 (z % 256) := by
  unfold byteOf; rw [bv_ofNat]; congr 1; omega
/-- a slice and what it holds -/
structure Pt where
  A : Option Addr
  n : Nat
  c : Nat
  l : List UInt8
def Pt.v (p : Pt) : Value := .slice p.A p.n p.c
end Go.Proofs.YtfmjgkfblejknaaGreat

/-
  Opening arguments: slices of integers as lists of bytes and numbers; bounds of integers.
-/
namespace Go.Proofs.YtfmjgkfblejknaaGreat
open Go.ChangeShapes Go.WideShapes Go.ChangeAt Go.RowKit
set_option linter.unusedVariables false

theorem prog_own : ownKnob Tryz.prog.godebug = none := by kernel_rfl
theorem laidOut : laidOutB Tryz.prog = true := by kernel_rfl

theorem bd_i64 {x : Int} (h : (Lit.int .i64 x).wf = true) : -9223372036854775808 ≤ x ∧ x ≤ 9223372036854775807 := by
  simpa [Lit.wf, IntKind.min, IntKind.max, IntKind.signed, IntKind.bits] using h
theorem bd_u64 {x : Int} (h : (Lit.int .u64 x).wf = true) : 0 ≤ x ∧ x ≤ 18446744073709551615 := by
  simpa [Lit.wf, IntKind.min, IntKind.max, IntKind.signed, IntKind.bits] using h
theorem bd_u8 {x : Int} (h : (Lit.int .u8 x).wf = true) : 0 ≤ x ∧ x ≤ 255 := by
  simpa [Lit.wf, IntKind.min, IntKind.max, IntKind.signed, IntKind.bits] using h

theorem rd_ints {W : World} {k : IntKind} {α : Type} (val : α → Value) (ofI : Int → α) (hof : ∀ n, (Lit.int k n).wf = true → val (ofI n) = .int k n) {a : Addr} {len cap : Nat} {zs : List Int}
    (hl : len ≤ cap) (hz : zs.length = cap) (hcell : ∀ i, i < zs.length → W.cell? (a.add i) = some (.int k (zs.getD i 0))) (hwz : ∀ n ∈ zs, (Lit.int k n).wf = true) :
    Rd W W.heap.size 1 (some a) len (((zs.take len).map ofI).map val) := by
  have hm : ((zs.take len).map ofI).map val = (zs.take len).map (Value.int k) := by
    rw [List.map_map]
    exact List.map_congr_left fun n hn => hof n (hwz n (List.mem_of_mem_take hn))
  rw [hm]
  refine ⟨by simp; omega, fun hn => ?_⟩
  obtain ⟨b, o, spot⟩ := a
  have hspot : spot = none := by simpa [Addr.add] using World.cell?_spot (hcell 0 (by omega))
  subst hspot
  refine ⟨b, o, rfl, ?_, fun j u hu => ?_⟩
  · have h0 := hcell 0 (by omega)
    have := World.block_lt_of_cell? W _ h0
    simpa [Addr.add] using this
  · have hj : j < len ∧ j < zs.length := by
      have := (List.getElem?_eq_some_iff.1 hu).1
      simp at this; omega
    have e : (⟨b, o, none⟩ : Addr).add j = ⟨b, o + j, none⟩ := by unfold Addr.add; split <;> simp_all
    rw [← e, hcell j hj.2]
    simp [hj.1, hj.2] at hu
    rw [← hu]
    simp [List.getD, hj.2]

/-- a slice of bytes that came in -/
def IsB (w : World) (A : Option Addr) (n c : Nat) (l : List UInt8) : Prop := Rd w w.heap.size 1 A n (bvs l) ∧ n ≤ c ∧ c ≤ 9223372036854775807

section
variable {H : Type} {enc : TypeId × Value → H} {W : World} {sp : Nat → Bool} {a : Option Addr} {len cap : Nat} {d : DataW H} {p : List MemPlace}
theorem is_b (h : DataW.Trod enc Tryz.prog W 0 (fun _ => true) true 22 (.slice a len cap) d p) : ∃ l, IsB W a len cap l := by
  obtain ⟨fuel, hf⟩ := h
  rcases open_ints Tryz.underlying22 Tryz.underlying5 (by kernel_rfl) hf with ⟨hcs, _⟩ | ⟨x, l, c, zs, hcs, _, hl, hm, hz, _, hcell, hwz⟩
  · simp [Value.cells] at hcs
    obtain ⟨rfl, rfl, rfl⟩ := hcs
    exact ⟨[], Rd.empty, by omega, by omega⟩
  · simp [Value.cells] at hcs
    obtain ⟨rfl, rfl, rfl⟩ := hcs
    refine ⟨_, rd_ints bv (fun n => UInt8.ofNat n.toNat) (fun n hn => ?_) hl (by simpa using hz) hcell hwz, hl, by simpa only [maxLen] using hm⟩
    have := bd_u8 hn
    rw [bv_ofNat]; congr 1; omega
end
end Go.Proofs.YtfmjgkfblejknaaGreat

/-
  Items as plain data, and as cells; an item or a slice of items that came in.
-/
namespace Go.Proofs.YtfmjgkfblejknaaGreat
open Go.ChangeShapes Go.WideShapes Go.ChangeAt Go.RowKit Go.Deep
set_option linter.unusedVariables false

/-- a sample, or a delete of a series -/
structure It where
  s : Int64
  k : Int64
  t : UInt64
  v : UInt64
  x : Int64

def itc (i : It) : List Value := [.int .i64 i.s.toInt, .int .i64 i.k.toInt, .int .u64 (i.t.toNat : Int), .int .u64 (i.v.toNat : Int), .int .i64 i.x.toInt]
def itcs (l : List It) : List Value := l.flatMap itc
theorem itcs_length (l : List It) : (itcs l).length = l.length * 5 := by
  induction l with
  | nil => rfl
  | cons i l ih => simp only [itcs, List.flatMap_cons, List.length_append, List.length_cons] at *; rw [ih]; simp [itc]; omega
theorem itcs_append (a b : List It) : itcs (a ++ b) = itcs a ++ itcs b := by simp [itcs]
theorem itcs_one (l : List It) : ∀ u ∈ itcs l, u.oneCell' = true := by
  intro u hu
  simp only [itcs, List.mem_flatMap] at hu
  obtain ⟨i, _, h⟩ := hu
  simp only [itc, List.mem_cons, List.not_mem_nil, or_false] at h
  rcases h with rfl | rfl | rfl | rfl | rfl <;> rfl
/-- the cells of the item at place k -/
theorem itcs_at (l : List It) {k : Nat} (hk : k < l.length) {j : Nat} (hj : j < 5) : (itcs l)[k * 5 + j]? = (itc l[k])[j]? := by
  induction l generalizing k with
  | nil => simp at hk
  | cons i l ih =>
    cases k with
    | zero =>
      simp only [itcs, List.flatMap_cons, Nat.zero_mul, Nat.zero_add, List.getElem_cons_zero]
      rw [List.getElem?_append_left (by simpa [itc] using hj)]
    | succ k =>
      have hk' : k < l.length := by simpa using hk
      have := ih hk'
      simp only [itcs, List.flatMap_cons, List.getElem_cons_succ] at this ⊢
      rw [List.getElem?_append_right (by simp [itc]; omega), ← this]
      congr 1; simp [itc]; omega

/-- an item's five cells, one by one -/
theorem five_cells {w : World} {B g : Nat} {i : It} (h : Rd w B 5 (some ⟨g, 0, none⟩) 1 (itc i)) :
    w.cell? ⟨g, 0, none⟩ = some (.int .i64 i.s.toInt) ∧ w.cell? ⟨g, 1, none⟩ = some (.int .i64 i.k.toInt) ∧ w.cell? ⟨g, 2, none⟩ = some (.int .u64 (i.t.toNat : Int)) ∧ w.cell? ⟨g, 3, none⟩ = some (.int .u64 (i.v.toNat : Int)) ∧ w.cell? ⟨g, 4, none⟩ = some (.int .i64 i.x.toInt) := by
  obtain ⟨b, o, e, _, hc⟩ := h.2 (by omega)
  injection e with e
  injection e with e1 e2
  subst e1; subst e2
  exact ⟨by simpa using hc 0 _ rfl, by simpa using hc 1 _ rfl, by simpa using hc 2 _ rfl, by simpa using hc 3 _ rfl, by simpa using hc 4 _ rfl⟩
theorem Rd.ilen {w : World} {B n : Nat} {A : Option Addr} {l : List It} (h : Rd w B 5 A n (itcs l)) : n = l.length := by have := h.1; rw [itcs_length] at this; omega
/-- the cells of a slice's item k -/
theorem Rd.item_at {w : World} {B n : Nat} {A : Option Addr} {l : List It} (h : Rd w B 5 A n (itcs l)) {k : Nat} (hk : k < n) :
    ∃ b o i, A = some ⟨b, o, none⟩ ∧ b < B ∧ l[k]? = some i ∧ w.cell? ⟨b, o + k * 5, none⟩ = some (.int .i64 i.s.toInt) ∧ w.cell? ⟨b, o + k * 5 + 1, none⟩ = some (.int .i64 i.k.toInt) ∧ w.cell? ⟨b, o + k * 5 + 2, none⟩ = some (.int .u64 (i.t.toNat : Int)) ∧ w.cell? ⟨b, o + k * 5 + 3, none⟩ = some (.int .u64 (i.v.toNat : Int)) ∧ w.cell? ⟨b, o + k * 5 + 4, none⟩ = some (.int .i64 i.x.toInt) := by
  have hl := h.ilen
  obtain ⟨b, o, e, hb, hc⟩ := h.2 (by omega)
  have hkl : k < l.length := by omega
  have got : ∀ j u, j < 5 → (itc l[k])[j]? = some u → w.cell? ⟨b, o + k * 5 + j, none⟩ = some u := fun j u hj hu => by
    rw [Nat.add_assoc]
    exact hc _ _ ((itcs_at l hkl hj).trans hu)
  exact ⟨b, o, l[k], e, hb, List.getElem?_eq_getElem hkl, got 0 _ (by omega) rfl, got 1 _ (by omega) rfl, got 2 _ (by omega) rfl, got 3 _ (by omega) rfl, got 4 _ (by omega) rfl⟩
theorem Rd.item (w : World) (i : It) (t : TypeId) : Rd (w.alloc (.cells #[.int .i64 i.s.toInt, .int .i64 i.k.toInt, .int .u64 (i.t.toNat : Int), .int .u64 (i.v.toNat : Int), .int .i64 i.x.toInt] t)) (w.heap.size + 1) 5 (some ⟨w.heap.size, 0, none⟩) 1 (itc i) := by
  have := Rd.made (sz := 5) (n := 1) w #[.int .i64 i.s.toInt, .int .i64 i.k.toInt, .int .u64 (i.t.toNat : Int), .int .u64 (i.v.toNat : Int), .int .i64 i.x.toInt] t rfl
  rw [World.size_alloc] at this
  exact this
/-- a boxed item's cells, in whatever grows out of that world -/
theorem item_held (w : World) (i : It) {t : TypeId} {W : World} (hW : w.alloc (.cells #[.int .i64 i.s.toInt, .int .i64 i.k.toInt, .int .u64 (i.t.toNat : Int), .int .u64 (i.v.toNat : Int), .int .i64 i.x.toInt] t) = W) :
    ∀ w1, Up W w1 → w1.cell? ⟨w.heap.size, 0, none⟩ = some (.int .i64 i.s.toInt) ∧ w1.cell? ⟨w.heap.size, 1, none⟩ = some (.int .i64 i.k.toInt) ∧ w1.cell? ⟨w.heap.size, 2, none⟩ = some (.int .u64 (i.t.toNat : Int)) ∧ w1.cell? ⟨w.heap.size, 3, none⟩ = some (.int .u64 (i.v.toNat : Int)) ∧ w1.cell? ⟨w.heap.size, 4, none⟩ = some (.int .i64 i.x.toInt) := fun w1 hu1 => by
  have h5 := Rd.item w i t
  rw [hW] at h5
  exact five_cells ((h5.mono (B' := W.heap.size) (by rw [← hW]; simp)).stay (Nat.le_refl _) hu1)
/-- a literal of items -/
theorem Rd.ilit_at (w : World) (l : List It) (cs : Array Value) (t : TypeId) {g : Nat} (hg : w.heap.size = g) (h : cs.toList = itcs l) : Rd (w.alloc (.cells cs t)) (w.alloc (.cells cs t)).heap.size 5 (some ⟨g, 0, none⟩) l.length (itcs l) := by
  subst hg
  rw [← h]
  exact Rd.made w cs t (by have := congrArg List.length h; rw [itcs_length] at this; simpa using this)
theorem i64_of {n : Int} (h : (Lit.int .i64 n).wf = true) : n = (Int64.ofInt n).toInt := by
  have := bd_i64 h
  rw [Int64.toInt_ofInt_of_le (by simpa using this.1) (by have := this.2; simp; omega)]
theorem u64_of {n : Int} (h : (Lit.int .u64 n).wf = true) : n = ((UInt64.ofNat n.toNat).toNat : Int) := by
  have := bd_u64 h
  simp; omega

section
variable {H : Type} {enc : TypeId × Value → H} {P : Program} {w : World} {base : Nat} {spare : Nat → Bool} {held : Bool}
theorem item_cells {t : TypeId} {f0 f1 f2 f3 f4 : Field} {fuel : Nat} {cs : List Value} {y : DataW H × List MemPlace} (hs : P.underlying t = some (.struct #[f0, f1, f2, f3, f4])) (hone : oneCellFields P #[f0, f1, f2, f3, f4] = true) (hC : P.cellsOf t = 5)
    (u0 : P.underlying f0.type = some (.int .i64)) (u1 : P.underlying f1.type = some (.int .i64)) (u2 : P.underlying f2.type = some (.int .u64)) (u3 : P.underlying f3.type = some (.int .u64)) (u4 : P.underlying f4.type = some (.int .i64))
    (h : DataW.trod enc P w base spare held fuel t cs = some y) : ∃ i : It, cs = itc i := by
  obtain ⟨ys, n, _, _, hlen, hyl, hf⟩ := DataW.trod_struct hs h
  rw [hC] at hlen
  match cs, hlen with
  | [c0, c1, c2, c3, c4], _ =>
    have got : ∀ (j : Nat) (f : Field) (hj : #[f0, f1, f2, f3, f4][j]? = some f), ∃ y, DataW.trod enc P w base spare held n f.type (([c0, c1, c2, c3, c4].drop j).take 1) = some y := by
      intro j f hj
      obtain ⟨ho, hk⟩ := hone_of hone j f hj
      have h1 := hf j f hj
      rw [ho, hk] at h1
      have hjl : j < ys.length := by
        have := (Array.getElem?_eq_some_iff.1 hj).1
        rw [hyl]; exact this
      exact ⟨ys[j], h1.trans (List.getElem?_eq_getElem hjl)⟩
    obtain ⟨y0, g0⟩ := got 0 f0 rfl
    obtain ⟨y1, g1⟩ := got 1 f1 rfl
    obtain ⟨y2, g2⟩ := got 2 f2 rfl
    obtain ⟨y3, g3⟩ := got 3 f3 rfl
    obtain ⟨y4, g4⟩ := got 4 f4 rfl
    obtain ⟨n0, e0, _, w0⟩ := DataW.trod_int u0 g0
    obtain ⟨n1, e1, _, w1⟩ := DataW.trod_int u1 g1
    obtain ⟨n2, e2, _, w2⟩ := DataW.trod_int u2 g2
    obtain ⟨n3, e3, _, w3⟩ := DataW.trod_int u3 g3
    obtain ⟨n4, e4, _, w4⟩ := DataW.trod_int u4 g4
    simp only [List.drop_zero, List.drop_succ_cons, List.take_succ_cons, List.take_zero, List.cons.injEq, and_true] at e0 e1 e2 e3 e4
    subst e0; subst e1; subst e2; subst e3; subst e4
    refine ⟨⟨Int64.ofInt n0, Int64.ofInt n1, UInt64.ofNat n2.toNat, UInt64.ofNat n3.toNat, Int64.ofInt n4⟩, ?_⟩
    simp only [itc]
    rw [← i64_of w0, ← i64_of w1, ← u64_of w2, ← u64_of w3, ← i64_of w4]

theorem item_cells' {fuel : Nat} {cs : List Value} {y : DataW H × List MemPlace} (h : DataW.trod enc Tryz.prog w base spare held fuel 37 cs = some y) : ∃ i : It, cs = itc i :=
  item_cells Tryz.underlying37 (by kernel_rfl) (by kernel_rfl) Tryz.underlying3 Tryz.underlying3 Tryz.underlying35 Tryz.underlying35 Tryz.underlying2 h
set_option maxRecDepth 100000 in
/-- an item by value -/
theorem is_item {b0 : Nat} {v : Value} {d : DataW H} {p : List MemPlace} (hv : Value.okWide Tryz.prog w .any b0 37 v) (h : DataW.Trod enc Tryz.prog w base spare held 37 v d p) :
    ∃ i : It, v = .agg (itc i).toArray := by
  obtain ⟨cs, rfl, hsz⟩ := okWide_struct Tryz.underlying37 hv
  obtain ⟨fuel, hf⟩ := h
  obtain ⟨i, hi⟩ := item_cells' hf
  refine ⟨i, ?_⟩
  congr 1
  apply Array.toList_inj.1
  simpa [Value.cells] using hi
end
end Go.Proofs.YtfmjgkfblejknaaGreat

/-
  The walks of item's tests: Ok, Less, Same, Wins, Hides; and of the document's.
-/
namespace Go.Proofs.YtfmjgkfblejknaaGreat
open Go.RowKit
set_option linter.unusedVariables false

/-- an item's numbers: may it be? -/
def okZ (s k : Int) (t v : Nat) (x : Int) : Bool := decide (0 ≤ s ∧ s ≤ 255 ∧ 1 ≤ v ∧ v ≤ 281474976710656 ∧ (k = 1 ∧ t = 0 ∧ x = 0 ∨ k = 2 ∧ t ≤ 1099511627776))
def lessZ (s k : Int) (t : Nat) (s' k' : Int) (t' : Nat) : Bool := decide (s < s' ∨ s = s' ∧ (k < k' ∨ k = k' ∧ t < t'))
def winsZ (v : Nat) (x : Int) (v' : Nat) (x' : Int) : Bool := decide (v' < v ∨ v = v' ∧ x' < x)
def hidesZ (s k : Int) (v : Nat) (s' k' : Int) (v' : Nat) : Bool := decide (k = 1 ∧ k' = 2 ∧ s = s' ∧ v' ≤ v)
def okB (i : It) : Bool := okZ i.s.toInt i.k.toInt i.t.toNat i.v.toNat i.x.toInt
def lessB (a b : It) : Bool := lessZ a.s.toInt a.k.toInt a.t.toNat b.s.toInt b.k.toInt b.t.toNat
def winsB (a b : It) : Bool := winsZ a.v.toNat a.x.toInt b.v.toNat b.x.toInt
def hidesB (a b : It) : Bool := hidesZ a.s.toInt a.k.toInt a.v.toNat b.s.toInt b.k.toInt b.v.toNat
def sameB (a b : It) : Bool := !lessB a b && !lessB b a

theorem ret_bool {a b : Bool} (h : a = b) : Ending.returned (.bool a) = .returned (.bool b) := by rw [h]

set_option maxRecDepth 100000 in
set_option maxHeartbeats 1600000 in
theorem ok_core (s k : Int) (t v : Nat) (x : Int) (w : World) :
    Calls Tryz.prog 39 #[.agg #[.int .i64 s, .int .i64 k, .int .u64 (t : Int), .int .u64 (v : Int), .int .i64 x]] w fun e w' => e = .returned (.bool (okZ s k t v x)) ∧ Up w w' := by
  have hs : okZ s k t v x = decide (0 ≤ s ∧ s ≤ 255 ∧ 1 ≤ v ∧ v ≤ 281474976710656 ∧ (k = 1 ∧ t = 0 ∧ x = 0 ∨ k = 2 ∧ t ≤ 1099511627776)) := rfl
  have HS := Lib.hid hs
  clear hs
  go_enter Tryz.func39, Tryz.ntmps39
  go_wp2
  all_goals
    go_ret
    refine ⟨ret_bool ?_, (Up.refl w).alloc _⟩
    rw [HS.out, Bool.eq_iff_iff]
    clear HS
    first | omega | (simp at *; done) | (simp at *; omega)

set_option maxRecDepth 100000 in
set_option maxHeartbeats 1600000 in
theorem less_core (s k : Int) (t v : Nat) (x : Int) (s' k' : Int) (t' v' : Nat) (x' : Int) (w : World) :
    Calls Tryz.prog 54 #[.agg #[.int .i64 s, .int .i64 k, .int .u64 (t : Int), .int .u64 (v : Int), .int .i64 x], .agg #[.int .i64 s', .int .i64 k', .int .u64 (t' : Int), .int .u64 (v' : Int), .int .i64 x']] w fun e w' => e = .returned (.bool (lessZ s k t s' k' t')) ∧ Up w w' := by
  have hs : lessZ s k t s' k' t' = decide (s < s' ∨ s = s' ∧ (k < k' ∨ k = k' ∧ t < t')) := rfl
  have HS := Lib.hid hs
  clear hs
  go_enter Tryz.func54, Tryz.ntmps54
  go_wp2
  all_goals
    go_ret
    refine ⟨ret_bool ?_, ((Up.refl w).alloc _).alloc _⟩
    rw [HS.out, Bool.eq_iff_iff]
    clear HS
    first | omega | (simp at *; done) | (simp at *; omega)



set_option maxRecDepth 100000 in
set_option maxHeartbeats 1600000 in
theorem rok_core (s k : Int) (t v : Nat) (x : Int) (w : World) :
    Calls Tryz.prog 31 #[.agg #[.int .i64 s, .int .i64 k, .int .u64 (t : Int), .int .u64 (v : Int), .int .i64 x]] w fun e w' => e = .returned (.bool (okZ s k t v x)) ∧ Up w w' := by
  have hs : okZ s k t v x = decide (0 ≤ s ∧ s ≤ 255 ∧ 1 ≤ v ∧ v ≤ 281474976710656 ∧ (k = 1 ∧ t = 0 ∧ x = 0 ∨ k = 2 ∧ t ≤ 1099511627776)) := rfl
  have HS := Lib.hid hs
  clear hs
  go_enter Tryz.func31, Tryz.ntmps31
  go_wp2
  all_goals
    go_ret
    refine ⟨ret_bool ?_, (Up.refl w).alloc _⟩
    rw [HS.out, Bool.eq_iff_iff]
    clear HS
    first | omega | (simp at *; done) | (simp at *; omega)

set_option maxRecDepth 100000 in
set_option maxHeartbeats 1600000 in
theorem rless_core (s k : Int) (t v : Nat) (x : Int) (s' k' : Int) (t' v' : Nat) (x' : Int) (w : World) :
    Calls Tryz.prog 17 #[.agg #[.int .i64 s, .int .i64 k, .int .u64 (t : Int), .int .u64 (v : Int), .int .i64 x], .agg #[.int .i64 s', .int .i64 k', .int .u64 (t' : Int), .int .u64 (v' : Int), .int .i64 x']] w fun e w' => e = .returned (.bool (lessZ s k t s' k' t')) ∧ Up w w' := by
  have hs : lessZ s k t s' k' t' = decide (s < s' ∨ s = s' ∧ (k < k' ∨ k = k' ∧ t < t')) := rfl
  have HS := Lib.hid hs
  clear hs
  go_enter Tryz.func17, Tryz.ntmps17
  go_wp2
  all_goals
    go_ret
    refine ⟨ret_bool ?_, ((Up.refl w).alloc _).alloc _⟩
    rw [HS.out, Bool.eq_iff_iff]
    clear HS
    first | omega | (simp at *; done) | (simp at *; omega)

set_option maxRecDepth 100000 in
set_option maxHeartbeats 1600000 in
theorem rwins_core (s k : Int) (t v : Nat) (x : Int) (s' k' : Int) (t' v' : Nat) (x' : Int) (w : World) :
    Calls Tryz.prog 61 #[.agg #[.int .i64 s, .int .i64 k, .int .u64 (t : Int), .int .u64 (v : Int), .int .i64 x], .agg #[.int .i64 s', .int .i64 k', .int .u64 (t' : Int), .int .u64 (v' : Int), .int .i64 x']] w fun e w' => e = .returned (.bool (winsZ v x v' x')) ∧ Up w w' := by
  have hs : winsZ v x v' x' = decide (v' < v ∨ v = v' ∧ x' < x) := rfl
  have HS := Lib.hid hs
  clear hs
  go_enter Tryz.func61, Tryz.ntmps61
  go_wp2
  all_goals
    go_ret
    refine ⟨ret_bool ?_, ((Up.refl w).alloc _).alloc _⟩
    rw [HS.out, Bool.eq_iff_iff]
    clear HS
    first | omega | (simp at *; done) | (simp at *; omega)


theorem ok_any (i : It) (w : World) : Calls Tryz.prog 39 #[.agg #[.int .i64 i.s.toInt, .int .i64 i.k.toInt, .int .u64 (i.t.toNat : Int), .int .u64 (i.v.toNat : Int), .int .i64 i.x.toInt]] w fun e w' => e = .returned (.bool (okB i)) ∧ Up w w' := ok_core _ _ _ _ _ w
theorem less_any (i j : It) (w : World) : Calls Tryz.prog 54 #[.agg #[.int .i64 i.s.toInt, .int .i64 i.k.toInt, .int .u64 (i.t.toNat : Int), .int .u64 (i.v.toNat : Int), .int .i64 i.x.toInt], .agg #[.int .i64 j.s.toInt, .int .i64 j.k.toInt, .int .u64 (j.t.toNat : Int), .int .u64 (j.v.toNat : Int), .int .i64 j.x.toInt]] w fun e w' => e = .returned (.bool (lessB i j)) ∧ Up w w' := less_core _ _ _ _ _ _ _ _ _ _ w
set_option maxRecDepth 100000 in
set_option maxHeartbeats 800000 in
theorem same_any (i j : It) (w : World) : Calls Tryz.prog 82 #[.agg #[.int .i64 i.s.toInt, .int .i64 i.k.toInt, .int .u64 (i.t.toNat : Int), .int .u64 (i.v.toNat : Int), .int .i64 i.x.toInt], .agg #[.int .i64 j.s.toInt, .int .i64 j.k.toInt, .int .u64 (j.t.toNat : Int), .int .u64 (j.v.toNat : Int), .int .i64 j.x.toInt]] w fun e w' => e = .returned (.bool (sameB i j)) ∧ Up w w' := by
  have hs : sameB i j = (!lessB i j && !lessB j i) := rfl
  have HS := Lib.hid hs
  clear hs
  have h1 := fun w0 => less_any i j w0
  have h2 := fun w0 => less_any j i w0
  have H1 := Lib.hid h1
  have H2 := Lib.hid h2
  clear h1 h2
  generalize lessB i j = a at *
  generalize lessB j i = b at *
  go_enter Tryz.func82, Tryz.ntmps82
  go_wp2_with fail
  refine (H1.out _).mono ?_
  rintro e w1 ⟨rfl, hu1⟩
  obtain ⟨i0, i1, i2, i3, i4⟩ := five_cells (((Rd.item w i 37).alloc (by simp) _).stay (by simp) hu1)
  obtain ⟨j0, j1, j2, j3, j4⟩ := five_cells ((Rd.item (w.alloc _) j 37).stay (by simp) hu1)
  rw [World.size_alloc] at j0 j1 j2 j3 j4
  have hu : Up w w1 := (((Up.refl w).alloc _).alloc _).trans hu1
  clear hu1
  cases a
  · go_wp2_with fail
    refine (H2.out _).mono ?_
    rintro e w2 ⟨rfl, hu2⟩
    go_wp2_with fail
    go_ret
    exact ⟨ret_bool (by rw [HS.out]; rfl), hu.trans hu2⟩
  · go_wp2_with fail
    go_ret
    exact ⟨ret_bool (by rw [HS.out]; rfl), hu⟩
theorem rok_any (i : It) (w : World) : Calls Tryz.prog 31 #[.agg #[.int .i64 i.s.toInt, .int .i64 i.k.toInt, .int .u64 (i.t.toNat : Int), .int .u64 (i.v.toNat : Int), .int .i64 i.x.toInt]] w fun e w' => e = .returned (.bool (okB i)) ∧ Up w w' := rok_core _ _ _ _ _ w
theorem rless_any (i j : It) (w : World) : Calls Tryz.prog 17 #[.agg #[.int .i64 i.s.toInt, .int .i64 i.k.toInt, .int .u64 (i.t.toNat : Int), .int .u64 (i.v.toNat : Int), .int .i64 i.x.toInt], .agg #[.int .i64 j.s.toInt, .int .i64 j.k.toInt, .int .u64 (j.t.toNat : Int), .int .u64 (j.v.toNat : Int), .int .i64 j.x.toInt]] w fun e w' => e = .returned (.bool (lessB i j)) ∧ Up w w' := rless_core _ _ _ _ _ _ _ _ _ _ w
theorem rwins_any (i j : It) (w : World) : Calls Tryz.prog 61 #[.agg #[.int .i64 i.s.toInt, .int .i64 i.k.toInt, .int .u64 (i.t.toNat : Int), .int .u64 (i.v.toNat : Int), .int .i64 i.x.toInt], .agg #[.int .i64 j.s.toInt, .int .i64 j.k.toInt, .int .u64 (j.t.toNat : Int), .int .u64 (j.v.toNat : Int), .int .i64 j.x.toInt]] w fun e w' => e = .returned (.bool (winsB i j)) ∧ Up w w' := rwins_core _ _ _ _ _ _ _ _ _ _ w
set_option maxRecDepth 100000 in
set_option maxHeartbeats 800000 in
theorem rsame_any (i j : It) (w : World) : Calls Tryz.prog 18 #[.agg #[.int .i64 i.s.toInt, .int .i64 i.k.toInt, .int .u64 (i.t.toNat : Int), .int .u64 (i.v.toNat : Int), .int .i64 i.x.toInt], .agg #[.int .i64 j.s.toInt, .int .i64 j.k.toInt, .int .u64 (j.t.toNat : Int), .int .u64 (j.v.toNat : Int), .int .i64 j.x.toInt]] w fun e w' => e = .returned (.bool (sameB i j)) ∧ Up w w' := by
  have hs : sameB i j = (!lessB i j && !lessB j i) := rfl
  have HS := Lib.hid hs
  clear hs
  have h1 := fun w0 => rless_any i j w0
  have h2 := fun w0 => rless_any j i w0
  have H1 := Lib.hid h1
  have H2 := Lib.hid h2
  clear h1 h2
  generalize lessB i j = a at *
  generalize lessB j i = b at *
  go_enter Tryz.func18, Tryz.ntmps18
  go_wp2_with fail
  refine (H1.out _).mono ?_
  rintro e w1 ⟨rfl, hu1⟩
  obtain ⟨i0, i1, i2, i3, i4⟩ := five_cells (((Rd.item w i 37).alloc (by simp) _).stay (by simp) hu1)
  obtain ⟨j0, j1, j2, j3, j4⟩ := five_cells ((Rd.item (w.alloc _) j 37).stay (by simp) hu1)
  rw [World.size_alloc] at j0 j1 j2 j3 j4
  have hu : Up w w1 := (((Up.refl w).alloc _).alloc _).trans hu1
  clear hu1
  cases a
  · go_wp2_with fail
    refine (H2.out _).mono ?_
    rintro e w2 ⟨rfl, hu2⟩
    go_wp2_with fail
    go_ret
    exact ⟨ret_bool (by rw [HS.out]; rfl), hu.trans hu2⟩
  · go_wp2_with fail
    go_ret
    exact ⟨ret_bool (by rw [HS.out]; rfl), hu⟩
end Go.Proofs.YtfmjgkfblejknaaGreat

/-
  Plain: numbers as bytes: groups of seven bits (numB), eight bytes (eightB).
-/
namespace Go.Proofs.YtfmjgkfblejknaaGreat
open Go.RowKit
set_option linter.unusedVariables false

/-- a number in groups of seven bits, the lowest first -/
def numB (n : Nat) : List UInt8 := if n < 128 then [UInt8.ofNat n] else UInt8.ofNat (n % 128 + 128) :: numB (n / 128)
termination_by n
decreasing_by omega

theorem numB_lo {n : Nat} (h : n < 128) : numB n = [UInt8.ofNat n] := by rw [numB, if_pos h]
theorem numB_hi {n : Nat} (h : ¬ n < 128) : numB n = UInt8.ofNat (n % 128 + 128) :: numB (n / 128) := by rw [numB, if_neg h]
theorem numB_pos (n : Nat) : 1 ≤ (numB n).length := by
  rw [numB]; split <;> simp
theorem numB_len (k : Nat) : ∀ n, n < 128 ^ (k + 1) → (numB n).length ≤ k + 1 := by
  induction k with
  | zero => intro n h; rw [numB_lo (by simpa using h)]; simp
  | succ k ih =>
    intro n h
    by_cases hn : n < 128
    · rw [numB_lo hn]; simp
    · rw [numB_hi hn]
      have := ih (n / 128) (by rw [Nat.div_lt_iff_lt_mul (by decide)]; rw [Nat.pow_succ] at h; exact h)
      simp only [List.length_cons]; omega
theorem numB_ten {n : Nat} (h : n < 18446744073709551616) : (numB n).length ≤ 10 := numB_len 9 n (Nat.lt_of_lt_of_le h (by decide))

/-- what Take finds in what is left, i bytes behind the beginning, acc gathered: the number, its bytes, the error -/
def takeGo : List UInt8 → Nat → Nat → Nat × Nat × Nat
  | [], _, _ => (0, 0, 4)
  | c :: r, i, acc =>
    if (i = 9 ∧ 1 < c.toNat) ∨ (0 < i ∧ c.toNat = 0) then (0, 0, 3)
    else if c.toNat < 128 then (acc + c.toNat % 128 * 128 ^ i, i + 1, 0)
    else takeGo r (i + 1) (acc + c.toNat % 128 * 128 ^ i)
def takeL (l : List UInt8) : Nat × Nat × Nat := takeGo l 0 0

theorem pow_le9 {i : Nat} (hi : i ≤ 9) : 128 ^ i ≤ 9223372036854775808 := by
  have : (128 : Nat) ^ i ≤ 128 ^ 9 := Nat.pow_le_pow_right (by decide) hi
  simpa using this
theorem take_step {acc i ch : Nat} (ha : acc < 128 ^ i) : acc + ch % 128 * 128 ^ i < 128 ^ (i + 1) := by
  have h1 : ch % 128 * 128 ^ i ≤ 127 * 128 ^ i := Nat.mul_le_mul_right _ (by omega)
  rw [Nat.pow_succ]; omega
theorem take_fit {acc i ch : Nat} (hi : i ≤ 9) (ha : acc < 128 ^ i) (h9 : i = 9 → ch ≤ 1) : acc + ch % 128 * 128 ^ i < 18446744073709551616 := by
  by_cases h : i = 9
  · subst h
    have h1 : ch % 128 * 128 ^ 9 ≤ 1 * 128 ^ 9 := Nat.mul_le_mul_right _ (by have := h9 rfl; omega)
    have e : (128 : Nat) ^ 9 = 9223372036854775808 := by decide
    rw [e] at *; omega
  · have := take_step (ch := ch) ha
    have h2 := pow_le9 (i := i + 1) (by omega)
    omega
/-- the number that a byte's turn of Take's loop comes to, as the walk spells it -/
theorem take_val {acc i : Nat} {ch : UInt8} (hi : i ≤ 9) (ha : acc < 128 ^ i) (h9 : i = 9 → ch.toNat ≤ 1) :
    bits .or .u64 (acc : Int) (IntKind.u64.wrap (IntKind.u64.wrap (bits .and .u8 (ch.toNat : Int) 127) * 2 ^ (7 * i))) = ((acc + ch.toNat % 128 * 128 ^ i : Nat) : Int) := by
  have hf := take_fit hi ha h9
  have hc : ch.toNat < 256 := ch.toNat_lt
  have e1 : bits .and .u8 (ch.toNat : Int) 127 = ((ch.toNat % 128 : Nat) : Int) := by
    rw [show (127 : Int) = ((127 : Nat) : Int) from rfl, u8_and_nat _ _ hc (by decide), nat_mask7]
  have e2 : (2 : Int) ^ (7 * i) = ((128 ^ i : Nat) : Int) := by rw [Int.natCast_pow, show ((128 : Nat) : Int) = 2 ^ 7 from rfl, ← Int.pow_mul]
  have e3 : IntKind.u64.wrap ((ch.toNat % 128 : Nat) : Int) = ((ch.toNat % 128 : Nat) : Int) := by
    rw [IntKind.wrap_u64]; omega
  rw [e1, e3, e2, ← Int.natCast_mul]
  have e4 : IntKind.u64.wrap ((ch.toNat % 128 * 128 ^ i : Nat) : Int) = ((ch.toNat % 128 * 128 ^ i : Nat) : Int) := by
    rw [IntKind.wrap_u64]; omega
  rw [e4, u64_or_nat _ _ (by omega) (by omega), Nat.or_comm, nat_join (7 * i), Nat.add_comm]
  · rw [Nat.pow_mul]; exact Nat.mul_mod_left _ _
  · rw [Nat.pow_mul]; exact ha

theorem take_val9 {acc : Nat} {ch : UInt8} (ha : acc < 128 ^ 9) (h9 : ch.toNat ≤ 1) :
    bits .or .u64 (acc : Int) (IntKind.u64.wrap (IntKind.u64.wrap (bits .and .u8 (ch.toNat : Int) 127) * 9223372036854775808)) = ((acc + ch.toNat % 128 * 128 ^ 9 : Nat) : Int) := by
  rw [← take_val (i := 9) (by omega) ha (fun _ => h9), show (2 : Int) ^ (7 * 9) = 9223372036854775808 by decide]
theorem rtake_val {acc i : Nat} {ch : UInt8} (hi : i ≤ 9) (ha : acc < 128 ^ i) (h9 : i = 9 → ch.toNat ≤ 1) :
    bits .or .u64 (acc : Int) (IntKind.u64.wrap (bits .and .u64 (ch.toNat : Int) 127 * 2 ^ (7 * i))) = ((acc + ch.toNat % 128 * 128 ^ i : Nat) : Int) := by
  rw [← take_val hi ha h9]
  have hc : ch.toNat < 256 := ch.toNat_lt
  have e1 : bits .and .u8 (ch.toNat : Int) 127 = ((ch.toNat % 128 : Nat) : Int) := by
    rw [show (127 : Int) = ((127 : Nat) : Int) from rfl, u8_and_nat _ _ hc (by decide), nat_mask7]
  have e2 : bits .and .u64 (ch.toNat : Int) 127 = ((ch.toNat % 128 : Nat) : Int) := by
    rw [show (127 : Int) = ((127 : Nat) : Int) from rfl, u64_and_nat _ _ (by omega) (by decide), nat_mask7]
  have e3 : IntKind.u64.wrap ((ch.toNat % 128 : Nat) : Int) = ((ch.toNat % 128 : Nat) : Int) := by
    rw [IntKind.wrap_u64]; omega
  rw [e1, e2, e3]
theorem rtake_val9 {acc : Nat} {ch : UInt8} (ha : acc < 128 ^ 9) (h9 : ch.toNat ≤ 1) :
    bits .or .u64 (acc : Int) (IntKind.u64.wrap (bits .and .u64 (ch.toNat : Int) 127 * 9223372036854775808)) = ((acc + ch.toNat % 128 * 128 ^ 9 : Nat) : Int) := by
  rw [← rtake_val (i := 9) (by omega) ha (fun _ => h9), show (2 : Int) ^ (7 * 9) = 9223372036854775808 by decide]
theorem byte0 (ch : UInt8) : (((ch.toNat : Int) == 0) = true → ch.toNat = 0) ∧ (((ch.toNat : Int) == 0) = false → 0 < ch.toNat) := by
  constructor
  · intro h; have := beq_iff_eq.1 h; omega
  · intro h; have := beq_eq_false_iff_ne.1 h; omega

theorem takeGo_form {c : UInt8} {r : List UInt8} {i acc : Nat} (h : (i = 9 ∧ 1 < c.toNat) ∨ (0 < i ∧ c.toNat = 0)) : takeGo (c :: r) i acc = (0, 0, 3) := by rw [takeGo, if_pos h]
theorem takeGo_end {c : UInt8} {r : List UInt8} {i acc : Nat} (h : ¬ ((i = 9 ∧ 1 < c.toNat) ∨ (0 < i ∧ c.toNat = 0))) (h2 : c.toNat < 128) : takeGo (c :: r) i acc = (acc + c.toNat % 128 * 128 ^ i, i + 1, 0) := by rw [takeGo, if_neg h, if_pos h2]
theorem takeGo_more {c : UInt8} {r : List UInt8} {i acc : Nat} (h : ¬ ((i = 9 ∧ 1 < c.toNat) ∨ (0 < i ∧ c.toNat = 0))) (h2 : ¬ c.toNat < 128) : takeGo (c :: r) i acc = takeGo r (i + 1) (acc + c.toNat % 128 * 128 ^ i) := by rw [takeGo, if_neg h, if_neg h2]

/-! ### signs -/
def signN (n : Int) : Nat := if n < 0 then (-(n + 1)).toNat * 2 + 1 else n.toNat * 2
def unsignZ (n : Nat) : Int := if n % 2 = 0 then ((n / 2 : Nat) : Int) else -((n / 2 : Nat) : Int) - 1
theorem xor_ones (a : Nat) (ha : a < 18446744073709551616) : bits .xor .u64 (a : Int) 18446744073709551615 = ((18446744073709551615 - a : Nat) : Int) := by
  rw [show (18446744073709551615 : Int) = ((18446744073709551615 : Nat) : Int) from rfl, u64_xor_nat _ _ ha (by decide)]
  congr 1
  have h := congrArg BitVec.toNat (BitVec.xor_allOnes (x := BitVec.ofNat 64 a))
  rw [BitVec.toNat_xor, BitVec.toNat_allOnes, BitVec.toNat_not, BitVec.toNat_ofNat, Nat.mod_eq_of_lt (by simpa using ha)] at h
  simpa using h
theorem sign_val (n : Int) (h1 : -9223372036854775808 ≤ n) (h2 : n ≤ 9223372036854775807) :
    bits .xor .u64 (IntKind.u64.wrap (IntKind.u64.wrap n * 2)) (IntKind.u64.wrap (n / 9223372036854775808)) = (signN n : Int) := by
  unfold signN
  by_cases hn : n < 0
  · rw [if_pos hn]
    have e1 : IntKind.u64.wrap (n / 9223372036854775808) = 18446744073709551615 := by rw [IntKind.wrap_u64]; omega
    obtain ⟨a, ha⟩ : ∃ a : Nat, IntKind.u64.wrap (IntKind.u64.wrap n * 2) = (a : Int) := ⟨(IntKind.u64.wrap (IntKind.u64.wrap n * 2)).toNat, by rw [IntKind.wrap_u64]; omega⟩
    have hb : a < 18446744073709551616 := by rw [IntKind.wrap_u64] at ha; omega
    rw [e1, ha, xor_ones a hb]
    rw [IntKind.wrap_u64, IntKind.wrap_u64] at ha
    omega
  · rw [if_neg hn]
    have e1 : IntKind.u64.wrap (n / 9223372036854775808) = ((0 : Nat) : Int) := by rw [IntKind.wrap_u64]; omega
    have e2 : IntKind.u64.wrap (IntKind.u64.wrap n * 2) = ((n.toNat * 2 : Nat) : Int) := by rw [IntKind.wrap_u64, IntKind.wrap_u64]; omega
    rw [e1, e2, u64_xor_nat _ _ (by omega) (by omega), Nat.xor_zero]
theorem xor_i64_ones (a : Nat) (ha : a < 9223372036854775808) : bits .xor .i64 (a : Int) (-1) = -(a : Int) - 1 := by
  have h := congrArg BitVec.toNat (BitVec.xor_allOnes (x := BitVec.ofNat 64 a))
  rw [BitVec.toNat_xor, BitVec.toNat_allOnes, BitVec.toNat_not, BitVec.toNat_ofNat, Nat.mod_eq_of_lt (by omega)] at h
  show IntKind.i64.wrap ((BitVec.ofInt 64 (a : Int) ^^^ BitVec.ofInt 64 (-1)).toNat : Int) = _
  rw [BitVec.toNat_xor, ofInt_u64 a (by omega)]
  have e1 : (BitVec.ofInt 64 (-1)).toNat = 2 ^ 64 - 1 := by decide
  rw [e1, h, IntKind.wrap_i64]
  omega
theorem xor_i64_zero (a : Nat) (ha : a < 9223372036854775808) : bits .xor .i64 (a : Int) 0 = (a : Int) := by
  show IntKind.i64.wrap ((BitVec.ofInt 64 (a : Int) ^^^ BitVec.ofInt 64 0).toNat : Int) = _
  rw [BitVec.toNat_xor, ofInt_u64 a (by omega)]
  have e1 : (BitVec.ofInt 64 0).toNat = 0 := by decide
  rw [e1, Nat.xor_zero, IntKind.wrap_i64]
  omega
theorem unsign_val (n : Nat) (h2 : n < 18446744073709551616) :
    bits .xor .i64 ((n : Int) / 2) (wrap64 (-wrap64 (bits .and .u64 (n : Int) 1))) = unsignZ n := by
  unfold unsignZ
  have e0 : bits .and .u64 (n : Int) 1 = ((n % 2 : Nat) : Int) := by
    rw [show (1 : Int) = ((1 : Nat) : Int) from rfl, u64_and_nat _ _ h2 (by decide), nat_mask1]
  rw [e0, show ((n : Int) / 2) = ((n / 2 : Nat) : Int) by omega]
  by_cases h : n % 2 = 0
  · rw [if_pos h, h]
    rw [show wrap64 (-wrap64 ((0 : Nat) : Int)) = 0 by decide +kernel]
    exact xor_i64_zero (n / 2) (by omega)
  · rw [if_neg h, show n % 2 = 1 by omega]
    rw [show wrap64 (-wrap64 ((1 : Nat) : Int)) = -1 by decide +kernel]
    exact xor_i64_ones (n / 2) (by omega)
theorem signN_lt (n : Int) (h1 : -9223372036854775808 ≤ n) (h2 : n ≤ 9223372036854775807) : signN n < 18446744073709551616 := by unfold signN; split <;> omega
theorem unsign_sign (n : Int) : unsignZ (signN n) = n := by unfold unsignZ signN; split <;> split <;> omega
theorem sign_unsign (n : Nat) : signN (unsignZ n) = n := by unfold unsignZ signN; split <;> split <;> omega
theorem unsignZ_bd (n : Nat) (h : n < 18446744073709551616) : -9223372036854775808 ≤ unsignZ n ∧ unsignZ n ≤ 9223372036854775807 := by unfold unsignZ; split <;> omega

/-! ### eight bytes -/
def eightB (n : Nat) : List UInt8 := (List.range 8).map fun i => UInt8.ofNat (n / 2 ^ (56 - 8 * i))
theorem eightB_len (n : Nat) : (eightB n).length = 8 := by simp [eightB]
theorem eightB_step (n k : Nat) (hk : k < 8) : (eightB n).take k ++ [UInt8.ofNat (n / 2 ^ (56 - 8 * k))] = (eightB n).take (k + 1) := by
  rw [List.take_succ_eq_append_getElem (by simpa [eightB] using hk)]
  simp [eightB]
theorem eight_byte (x k : Nat) : Value.int .u8 ((x : Int) / 2 ^ (56 - 8 * k) % 256) = bv (UInt8.ofNat (x / 2 ^ (56 - 8 * k))) := by
  rw [bv_ofNat]; simp
def foldN (l : List UInt8) : Nat := l.foldl (fun a c => a * 256 + c.toNat) 0
theorem foldN_snoc (l : List UInt8) (c : UInt8) : foldN (l ++ [c]) = foldN l * 256 + c.toNat := by simp [foldN]
theorem foldN_lt (l : List UInt8) : foldN l < 256 ^ l.length := by
  suffices h : ∀ r : List UInt8, foldN r.reverse < 256 ^ r.reverse.length by simpa using h l.reverse
  intro r
  induction r with
  | nil => simp [foldN]
  | cons c r ih =>
    rw [List.reverse_cons, foldN_snoc, List.length_append, List.length_singleton, Nat.pow_succ]
    have := c.toNat_lt
    omega
theorem fold_val {a : Nat} {ch : UInt8} {k : Nat} (hk : k ≤ 7) (ha : a < 256 ^ k) :
    bits .or .u64 (IntKind.u64.wrap ((a : Int) * 256)) (IntKind.u64.wrap (ch.toNat : Int)) = ((a * 256 + ch.toNat : Nat) : Int) := by
  have h7 : (256 : Nat) ^ k ≤ 256 ^ 7 := Nat.pow_le_pow_right (by decide) hk
  have e7 : (256 : Nat) ^ 7 = 72057594037927936 := by decide
  have hc := ch.toNat_lt
  have e1 : IntKind.u64.wrap ((a : Int) * 256) = ((a * 256 : Nat) : Int) := by rw [IntKind.wrap_u64]; omega
  have e2 : IntKind.u64.wrap (ch.toNat : Int) = ((ch.toNat : Nat) : Int) := by rw [IntKind.wrap_u64]; omega
  rw [e1, e2, u64_or_nat _ _ (by omega) (by omega), nat_join 8 _ _ (by omega) (by omega)]
def uneightL (l : List UInt8) : Nat × Nat := if l.length < 8 then (0, 4) else (foldN (l.take 8), 0)

/-! ### lists -/
def numsB (q : List UInt64) : List UInt8 := q.flatMap fun x => numB x.toNat
def listB (q : List UInt64) : List UInt8 := numB q.length ++ numsB q
theorem numsB_snoc (q : List UInt64) (x : UInt64) : numsB (q ++ [x]) = numsB q ++ numB x.toNat := by simp [numsB]
theorem numsB_len (q : List UInt64) : (numsB q).length ≤ 10 * q.length := by
  induction q with
  | nil => simp [numsB]
  | cons x q ih => have := numB_ten x.toNat_lt; simp only [numsB, List.flatMap_cons, List.length_append, List.length_cons] at *; omega

theorem neq0 (e : Nat) : (((e : Int) != 0) = true → e ≠ 0) ∧ (((e : Int) != 0) = false → e = 0) := by
  constructor
  · intro h he; subst he; simp at h
  · intro h
    rcases Nat.eq_zero_or_pos e with h0 | h0
    · exact h0
    · exfalso
      have : ((e : Int) != 0) = true := by rw [bne_iff_ne]; omega
      rw [this] at h; cases h

/-! ### what Take answers -/
theorem takeGo_ok (l : List UInt8) : ∀ (i acc : Nat), i ≤ 9 → acc < 128 ^ i → (takeGo l i acc).2.2 = 0 →
    (takeGo l i acc).1 < 18446744073709551616 ∧ i + 1 ≤ (takeGo l i acc).2.1 ∧ (takeGo l i acc).2.1 ≤ i + l.length ∧ (takeGo l i acc).2.1 ≤ 10 := by
  induction l with
  | nil => intro i acc _ _ h; simp [takeGo] at h
  | cons c r ih =>
    intro i acc hi ha h
    by_cases hf : (i = 9 ∧ 1 < c.toNat) ∨ (0 < i ∧ c.toNat = 0)
    · rw [takeGo_form hf] at h; simp at h
    · by_cases h2 : c.toNat < 128
      · rw [takeGo_end hf h2]
        exact ⟨take_fit hi ha (by omega), by simp, by simp only [List.length_cons]; omega, by simp only; omega⟩
      · rw [takeGo_more hf h2] at h ⊢
        have hi9 : i ≤ 8 := by omega
        obtain ⟨a, b, c', d⟩ := ih (i + 1) _ (by omega) (take_step ha) h
        exact ⟨a, by omega, by simp only [List.length_cons]; omega, d⟩
theorem takeL_ok {l : List UInt8} (h : (takeL l).2.2 = 0) : (takeL l).1 < 18446744073709551616 ∧ 1 ≤ (takeL l).2.1 ∧ (takeL l).2.1 ≤ l.length ∧ (takeL l).2.1 ≤ 10 := by
  unfold takeL at h ⊢
  obtain ⟨a, b, c, d⟩ := takeGo_ok l 0 0 (by omega) (by simp) h
  exact ⟨a, by omega, by simpa using c, d⟩
theorem takeGo_bad (l : List UInt8) : ∀ (i acc : Nat), (takeGo l i acc).2.2 ≠ 0 → (takeGo l i acc).1 = 0 ∧ (takeGo l i acc).2.1 = 0 ∧ ((takeGo l i acc).2.2 = 3 ∨ (takeGo l i acc).2.2 = 4) := by
  induction l with
  | nil => intro i acc _; simp [takeGo]
  | cons c r ih =>
    intro i acc h
    by_cases hf : (i = 9 ∧ 1 < c.toNat) ∨ (0 < i ∧ c.toNat = 0)
    · rw [takeGo_form hf]; simp
    · by_cases h2 : c.toNat < 128
      · rw [takeGo_end hf h2] at h; simp at h
      · rw [takeGo_more hf h2] at h ⊢; exact ih _ _ h
theorem takeL_bad {l : List UInt8} (h : (takeL l).2.2 ≠ 0) : (takeL l).1 = 0 ∧ (takeL l).2.1 = 0 ∧ ((takeL l).2.2 = 3 ∨ (takeL l).2.2 = 4) := takeGo_bad l 0 0 h

/-- what is left of Unlist: k numbers are still to come -/
def unGo : Nat → List UInt8 → Nat → List UInt64 → List UInt64 × Nat × Nat
  | 0, _, at_, acc => (acc, at_, 0)
  | k + 1, l, at_, acc =>
    if (takeL (l.drop at_)).2.2 = 0 then unGo k l (at_ + (takeL (l.drop at_)).2.1) (acc ++ [UInt64.ofNat (takeL (l.drop at_)).1])
    else ([], 0, (takeL (l.drop at_)).2.2)
def unlistL (l : List UInt8) (most : Int) : List UInt64 × Nat × Nat :=
  if (takeL l).2.2 ≠ 0 then ([], 0, (takeL l).2.2)
  else if (if most < 0 then 0 else most) < ((takeL l).1 : Int) then ([], 0, 2)
  else unGo (takeL l).1 l (takeL l).2.1 []

end Go.Proofs.YtfmjgkfblejknaaGreat

/-
  The walks of num: Put.
-/
namespace Go.Proofs.YtfmjgkfblejknaaGreat
open Go.RowKit
set_option linter.unusedVariables false


theorem or128 : ∀ k, k < 256 → bits .or .u8 ((k : Nat) : Int) 128 = ((k % 128 + 128 : Nat) : Int) := by decide +kernel
theorem put_byte (m : Nat) : Value.int .u8 (bits BinOp.or IntKind.u8 ((m : Int) % 256) 128) = bv (UInt8.ofNat (m % 128 + 128)) := by
  rw [bv_ofNat, show ((m : Int) % 256) = ((m % 256 : Nat) : Int) by omega, or128 _ (Nat.mod_lt _ (by decide))]
  congr 1; omega

set_option maxRecDepth 100000 in
set_option maxHeartbeats 400000 in
theorem put_any (A : Option Addr) (n c : Nat) (bs : List UInt8) (x : Nat) (w : World) (hr : Rd w w.heap.size 1 A n (bvs bs)) (hn : n ≤ 1099511627776) (hx : (x : Int) ≤ 18446744073709551615) :
    Calls Tryz.prog 41 #[.slice A n c, .int .u64 (x : Int)] w fun e w' => ∃ A' n' c', e = .returned (.slice A' n' c') ∧ OwnB w' w.heap.size A' n' c' (bs ++ numB x) ∧ Up w w' := by
  go_enter Tryz.func41, Tryz.ntmps41
  go_wp2_with (first
    | (at_builtin
       refine wpList_append_rd _ bytesT (World.ownsRow_nil _ w.heap.size _ _) hr (bvs_one _) (by omega) (by omega) (Nat.le_refl _) rfl rfl rfl rfl ?_
       intro v1 w1 hown1 hg1 hat1))
  have hu1 : Up w w1 := (Up.refl w).grown hg1 (by simp [Value.ownBlock])
  simp only [Nat.zero_add, List.nil_append] at hown1
  go_loopw [1, 5] (fun q v wr => ∃ (m : Nat) (pre : List UInt8), q = .int .u64 (m : Int) ∧ (m : Int) ≤ 18446744073709551615 ∧ wr.ownsRow w.heap.size 5 1 v pre.length (bvs pre) ∧ Hid (pre ++ numB m = bs ++ numB x) ∧ Up w wr)
    (fun q _ _ => (intOf q).toNat)
  case atStart => exact ⟨x, bs, rfl, by omega, by have := hr.len; simp only [bvs_length, Nat.mul_one] at this; rw [this]; exact hown1, rfl, hu1⟩
  case round =>
    obtain ⟨m, pre, rfl, hm, hown, hp, hu⟩ := hrel
    clear hown1 hu1
    have hl : pre.length + (numB m).length = n + (numB x).length := by
      have := congrArg List.length hp.out; have h2 := hr.len
      simp only [List.length_append, bvs_length, Nat.mul_one] at this h2; omega
    have hxt := numB_ten (n := x) (by omega)
    have hbd : pre.length ≤ 1099511627786 := by omega
    have HL := Lib.hid hl
    clear hl hxt hn hr
    by_cases hlt : m < 128
    · have hb : Value.int .u8 (m : Int) = bv (UInt8.ofNat m) := by rw [bv_ofNat]; congr 1; omega
      have HB := Lib.hid hb; clear hb
      go_wp2_with (at_builtin; refine wpList_append_rd _ bytesT (news := bvs [UInt8.ofNat m]) (hown.alloc _) (Rd.boxb _ _ HB.out) (bvs_one _) (by omega) (by omega) (by simp; have := hu.size; omega) rfl rfl rfl rfl ?_; intro v2 w2 hown2 hg2 hat2)
      obtain ⟨A2, c2, rfl⟩ := own_form hown2
      go_ret
      refine ⟨A2, _, c2, rfl, ?_, hu.alloc _ |>.grown hg2 (fun k hk => (hown.lt k hk).1)⟩
      show World.ownsRow _ _ _ _ _ _ _
      rw [← hp.out, bvs_append, numB_lo hlt]; exact hown2
    · have HB := Lib.hid (put_byte m)
      go_wp2_with (at_builtin; refine wpList_append_rd _ bytesT (news := bvs [UInt8.ofNat (m % 128 + 128)]) (hown.alloc _) (Rd.boxb _ _ HB.out) (bvs_one _) (by omega) (by omega) (by simp; have := hu.size; omega) rfl rfl rfl rfl ?_; intro v2 w2 hown2 hg2 hat2)
      go_roundw
      case rel =>
        refine ⟨m / 128, pre ++ [UInt8.ofNat (m % 128 + 128)], by go_num, by omega, ?_, ?_, hu.alloc _ |>.grown hg2 (fun k hk => (hown.lt k hk).1)⟩
        · rw [bvs_append, List.length_append]; exact hown2
        · show _ = _; rw [← hp.out, numB_hi hlt]; simp
      case measure => simp [intOf]; omega

end Go.Proofs.YtfmjgkfblejknaaGreat

/-
  The walks of num: Take.
-/
namespace Go.Proofs.YtfmjgkfblejknaaGreat
open Go.RowKit
set_option linter.unusedVariables false

set_option maxRecDepth 100000 in
set_option maxHeartbeats 400000 in
theorem take_any (A : Option Addr) (n c : Nat) (bs : List UInt8) (w : World) (hr : Rd w w.heap.size 1 A n (bvs bs)) (hn : n ≤ 9223372036854775807) :
    Calls Tryz.prog 86 #[.slice A n c] w fun e w' => e = .returned (.tuple #[.int .u64 ((takeL bs).1 : Int), .int .i64 ((takeL bs).2.1 : Int), .int .i64 ((takeL bs).2.2 : Int)]) ∧ w = w' := by
  go_enter Tryz.func86, Tryz.ntmps86
  go_wp2
  go_loop [2, 9] (fun q i => ∃ (k acc : Nat), i = .int .i64 (k : Int) ∧ q = .int .u64 (acc : Int) ∧ k ≤ n ∧ k ≤ 9 ∧ acc < 128 ^ k ∧ Hid (takeGo (bs.drop k) k acc = takeL bs)) (fun _ i => n - (intOf i).toNat)
  case atStart => exact ⟨0, 0, rfl, rfl, by omega, by omega, by simp, rfl⟩
  case round =>
    obtain ⟨k, acc, rfl, rfl, hk, hk9, hacc, ht⟩ := hrel
    by_cases hlt : k < n
    · obtain ⟨b, o, rfl, _, hc⟩ := hr.byte hlt
      have hbl : k < bs.length := by have := hr.len; simp only [bvs_length] at this; omega
      have htg : takeGo (bs.drop k) k acc = takeGo (bs.getD k 0 :: bs.drop (k + 1)) k acc := by
        rw [List.drop_eq_getElem_cons hbl]; simp [List.getD, hbl]
      generalize (bs.getD k 0) = ch at hc htg
      have HT : Hid (takeGo (ch :: bs.drop (k + 1)) k acc = takeL bs) := htg.symm.trans ht.out
      clear htg ht hr
      have HZ := Lib.hid (byte0 ch)
      by_cases h9 : k = 9
      · subst h9
        go_wp2
        all_goals (first | have hz := HZ.out.1 (by assumption) | have hz := HZ.out.2 (by assumption) | skip)
        all_goals first
          | (go_ret3; rw [← HT.out, takeGo_form (by omega)]; exact ⟨rfl, rfl⟩)
          | (go_ret3; rw [← HT.out, takeGo_end (by omega) (by omega)]; exact ⟨by rw [← take_val9 hacc (by omega)]; rfl, rfl⟩)
      · go_wp2
        all_goals (first | have hz := HZ.out.1 (by assumption) | have hz := HZ.out.2 (by assumption) | skip)
        all_goals first
          | (go_ret3; rw [← HT.out, takeGo_form (by omega)]; exact ⟨rfl, rfl⟩)
          | (go_ret3; rw [← HT.out, takeGo_end (by omega) (by omega)]; exact ⟨by rw [← take_val (by omega) hacc (by omega)]; rfl, rfl⟩)
          | (go_round
             case rel => exact ⟨k + 1, _, by go_num, congrArg _ (take_val (by omega) hacc (by omega)), by omega, by omega, take_step hacc, (takeGo_more (by omega) (by omega)).symm.trans HT.out⟩
             case measure => simp [intOf]; omega)
    · go_wp2
      go_ret3
      have hk' : k = n := by omega
      rw [← ht.out, List.drop_of_length_le (by have := hr.len; simp only [bvs_length] at this; omega)]
      exact ⟨rfl, rfl⟩

end Go.Proofs.YtfmjgkfblejknaaGreat

/-
  The walks of num: Sign, Unsign, Uneight, Eight.
-/
namespace Go.Proofs.YtfmjgkfblejknaaGreat
open Go.RowKit
set_option linter.unusedVariables false

theorem sign_any (n : Int) (w : World) (h1 : -9223372036854775808 ≤ n) (h2 : n ≤ 9223372036854775807) :
    Calls Tryz.prog 70 #[.int .i64 n] w fun e w' => e = .returned (.int .u64 (signN n : Int)) ∧ w = w' := by
  go_enter Tryz.func70, Tryz.ntmps70
  go_wp2
  go_ret
  exact ⟨by rw [← sign_val n h1 h2]; rfl, rfl⟩

theorem unsign_any (n : Nat) (w : World) (h2 : (n : Int) ≤ 18446744073709551615) :
    Calls Tryz.prog 99 #[.int .u64 (n : Int)] w fun e w' => e = .returned (.int .i64 (unsignZ n)) ∧ w = w' := by
  go_enter Tryz.func99, Tryz.ntmps99
  go_wp2
  go_ret
  exact ⟨by rw [← unsign_val n (by omega)]; rfl, rfl⟩


set_option maxRecDepth 100000 in
set_option maxHeartbeats 400000 in
theorem eight_any (A : Option Addr) (n c : Nat) (bs : List UInt8) (x : Nat) (w : World) (hr : Rd w w.heap.size 1 A n (bvs bs)) (hn : n ≤ 1099511627776) (hx : (x : Int) ≤ 18446744073709551615) :
    Calls Tryz.prog 80 #[.slice A n c, .int .u64 (x : Int)] w fun e w' => ∃ A' n' c', e = .returned (.slice A' n' c') ∧ OwnB w' w.heap.size A' n' c' (bs ++ eightB x) ∧ Up w w' := by
  go_enter Tryz.func80, Tryz.ntmps80
  go_wp2_with (first
    | (at_builtin
       refine wpList_append_rd _ bytesT (World.ownsRow_nil _ w.heap.size _ _) hr (bvs_one _) (by omega) (by omega) (Nat.le_refl _) rfl rfl rfl rfl ?_
       intro v1 w1 hown1 hg1 hat1))
  have hu1 : Up w w1 := (Up.refl w).grown hg1 (by simp [Value.ownBlock])
  simp only [Nat.zero_add, List.nil_append] at hown1
  go_loopw [5, 6] (fun v i wr => ∃ (k : Nat), i = .int .i64 (56 - 8 * (k : Int)) ∧ k ≤ 8 ∧ wr.ownsRow w.heap.size 5 1 v (n + k) (bvs (bs ++ (eightB x).take k)) ∧ Up w wr)
    (fun _ i _ => (intOf i + 8).toNat)
  case atStart => exact ⟨0, by go_num, by omega, by simpa using hown1, hu1⟩
  case round =>
    obtain ⟨k, rfl, hk, hown, hu⟩ := hrel
    clear hown1 hu1 hr
    by_cases hlt : k < 8
    · have HB := Lib.hid (eight_byte x k)
      go_wp2_with (at_builtin; refine wpList_append_rd _ bytesT (news := bvs [UInt8.ofNat (x / 2 ^ (56 - 8 * k))]) (hown.alloc _) (Rd.boxb _ _ HB.out) (bvs_one _) (by omega) (by omega) (by simp; have := hu.size; omega) rfl rfl rfl rfl ?_; intro v2 w2 hown2 hg2 hat2)
      go_roundw
      case rel =>
        refine ⟨k + 1, by go_num, by omega, ?_, hu.alloc _ |>.grown hg2 (fun k hk => (hown.lt k hk).1)⟩
        rw [← eightB_step x k hlt, ← List.append_assoc, bvs_append]; exact hown2
      case measure => simp [intOf]; omega
    · obtain ⟨A2, c2, rfl⟩ := own_form hown
      go_wp2
      go_ret
      have hk8 : k = 8 := by omega
      subst hk8
      rw [List.take_of_length_le (by rw [eightB_len]; omega)] at hown
      exact ⟨A2, _, c2, rfl, hown, hu⟩

end Go.Proofs.YtfmjgkfblejknaaGreat

/-
  The walks of item: Key, All.
-/
namespace Go.Proofs.YtfmjgkfblejknaaGreat
open Go.RowKit
set_option linter.unusedVariables false

def keyB (i : It) : List UInt8 := byteOf i.s.toInt :: byteOf i.k.toInt :: eightB i.t.toNat

set_option maxRecDepth 100000 in
set_option maxHeartbeats 800000 in
theorem key_any (i : It) (w : World) :
    Calls Tryz.prog 51 #[.agg #[.int .i64 i.s.toInt, .int .i64 i.k.toInt, .int .u64 (i.t.toNat : Int), .int .u64 (i.v.toNat : Int), .int .i64 i.x.toInt]] w fun e w' => ∃ A' n' c', e = .returned (.slice A' n' c') ∧ OwnB w' w.heap.size A' n' c' (keyB i) ∧ Up w w' := by
  go_enter Tryz.func51, Tryz.ntmps51
  go_wp2_with fail
  refine (eight_any _ 2 2 [byteOf i.s.toInt, byteOf i.k.toInt] i.t.toNat _ (Rd.lit_at _ _ _ _ (by simp) (by simp [bvs, bv_byteOf])) (by omega) (by have := i.t.toNat_lt; omega)).mono ?_
  rintro e w1 ⟨A1, n1, c1, rfl, ho1, hu1⟩
  go_wp2_with fail
  go_ret
  exact ⟨A1, n1, c1, rfl, own_base ho1 (by simp; omega), (((Up.refl w).alloc _).alloc _).trans hu1⟩

set_option maxRecDepth 100000 in
set_option maxHeartbeats 800000 in
theorem all1_any (i : It) (w : World) :
    Calls Tryz.prog 90 #[.agg #[.int .i64 i.s.toInt, .int .i64 i.k.toInt, .int .u64 (i.t.toNat : Int), .int .u64 (i.v.toNat : Int), .int .i64 i.x.toInt]] w fun e w' => e = .returned (.bool (!okB i)) ∧ Up w w' := by
  go_enter Tryz.func90, Tryz.ntmps90
  go_wp2_with fail
  refine (ok_any i _).mono ?_
  rintro e w1 ⟨rfl, hu⟩
  go_wp2_with fail
  go_ret
  exact ⟨rfl, ((Up.refl w).alloc _).trans hu⟩
set_option maxRecDepth 100000 in
set_option maxHeartbeats 800000 in
theorem indexf_any (A : Option Addr) (n c : Nat) (l : List It) (w : World) (hr : Rd w w.heap.size 5 A n (itcs l)) (hn : n ≤ 9223372036854775807) :
    Calls Tryz.prog 66 #[.slice A n c, .func (.func 90) #[] #[]] w fun e w' => ∃ z : Int, e = .returned (.int .i64 z) ∧ Hid (l.all okB = decide (z < 0)) ∧ Up w w' := by
  have HL := Lib.hid hr.ilen
  go_enter Tryz.func66, Tryz.ntmps66
  go_wp2_with fail
  go_loopw [8] (fun i wr => ∃ k : Nat, i = .int .i64 (k : Int) ∧ k ≤ n ∧ Hid ((l.take k).all okB = true) ∧ Up w wr) (fun i _ => n - (intOf i).toNat)
  case atStart => exact ⟨0, rfl, by omega, rfl, Up.refl _⟩
  case round =>
    obtain ⟨k, rfl, hk, hall, hu⟩ := hrel
    by_cases hlt : k < n
    · obtain ⟨b, o, i, rfl, hb, hik, c0, c1, c2, c3, c4⟩ := (hr.stay (Nat.le_refl _) hu).item_at hlt
      have HI := Lib.hid hik
      clear hik
      go_wp2_with fail
      refine (all1_any i wr).mono ?_
      rintro e w2 ⟨rfl, hu2⟩
      have hkl : k < l.length := by have := HL.out; omega
      have htk : l.take (k + 1) = l.take k ++ [i] := by
        rw [List.take_succ_eq_append_getElem hkl]
        have := HI.out
        rw [List.getElem?_eq_getElem hkl] at this
        injection this with this
        rw [this]
      have HT := Lib.hid htk
      clear htk c0 c1 c2 c3 c4
      cases hok : okB i
      · have hf : Hid (l.all okB = decide ((k : Int) < 0)) := by
          show _ = _
          have : okB l[k] = false := by
            have h := HI.out
            rw [List.getElem?_eq_getElem hkl] at h
            injection h with h
            rw [h]; exact hok
          have h2 : l.all okB = false := by
            rw [List.all_eq_false]
            exact ⟨l[k], List.getElem_mem _, by rw [this]; simp⟩
          rw [h2]; simp
        clear hok
        go_wp2_with fail
        go_ret
        exact ⟨k, rfl, hf, hu.trans hu2⟩
      · have HO := Lib.hid hok
        clear hok
        go_wp2_with fail
        go_roundw
        case rel =>
          refine ⟨k + 1, by go_num, by omega, ?_, hu.trans hu2⟩
          show _ = _
          rw [HT.out, List.all_append, hall.out]
          simp [HO.out]
        case measure => simp [intOf]; omega
    · go_wp2_with fail
      go_ret
      refine ⟨-1, rfl, ?_, hu⟩
      show _ = _
      have hk' : k = l.length := by have := HL.out; omega
      have h := hall.out
      rw [hk', List.take_of_length_le (Nat.le_refl _)] at h
      rw [h]; rfl
set_option maxRecDepth 100000 in
theorem all_any (A : Option Addr) (n c : Nat) (l : List It) (w : World) (hr : Rd w w.heap.size 5 A n (itcs l)) (hn : n ≤ 9223372036854775807) :
    Calls Tryz.prog 69 #[.slice A n c] w fun e w' => e = .returned (.bool (l.all okB)) ∧ Up w w' := by
  have h1 := indexf_any A n c l w hr hn
  have H1 := Lib.hid h1
  clear h1
  generalize l.all okB = r at *
  have h2 : Calls Tryz.prog 37 #[.slice A n c, .func (.func 90) #[] #[]] w fun e w' => e = .returned (.bool (!r)) ∧ Up w w' := by
    go_enter Tryz.func37, Tryz.ntmps37
    go_wp2_with fail
    refine H1.out.mono ?_
    rintro e w1 ⟨z, rfl, hz, hu⟩
    go_wp2_with fail
    go_ret
    refine ⟨ret_bool ?_, hu⟩
    rw [hz.out]
    by_cases h : z < 0
    · simp [h]
    · simp [h]; omega
  have H2 := Lib.hid h2
  clear h2 H1
  go_enter Tryz.func69, Tryz.ntmps69
  go_wp2_with fail
  refine H2.out.mono ?_
  rintro e w1 ⟨rfl, hu⟩
  go_wp2_with fail
  go_ret
  exact ⟨ret_bool (by simp), hu⟩
end Go.Proofs.YtfmjgkfblejknaaGreat

/-
  The walk of item.Bytes.
-/
namespace Go.Proofs.YtfmjgkfblejknaaGreat
open Go.RowKit
set_option linter.unusedVariables false

def itB (i : It) : List UInt8 := byteOf i.s.toInt :: byteOf i.k.toInt :: (numB i.t.toNat ++ (numB i.v.toNat ++ numB (signN i.x.toInt)))
def itemsB (l : List It) : List UInt8 := numB l.length ++ l.flatMap itB
def bytesE (l : List It) : Nat := if 2000 < l.length then 2 else if l.all okB then 0 else 1
/-- what Bytes hands back -/
def bytesL (bs : List UInt8) (l : List It) : List UInt8 := if bytesE l = 0 then bs ++ itemsB l else []
theorem bytesL_no {bs : List UInt8} {l : List It} (h : bytesE l ≠ 0) : bytesL bs l = [] := by unfold bytesL; rw [if_neg h]
theorem bytesL_yes {bs : List UInt8} {l : List It} (h : bytesE l = 0) : bytesL bs l = bs ++ itemsB l := by unfold bytesL; rw [if_pos h]
theorem i64_bd (i : Int64) : -9223372036854775808 ≤ i.toInt ∧ i.toInt ≤ 9223372036854775807 := ⟨by have := i.le_toInt; simpa using this, by have := i.toInt_lt; omega⟩
theorem itB_len (i : It) : (itB i).length ≤ 32 := by
  have h1 := numB_ten i.t.toNat_lt
  have h2 := numB_ten i.v.toNat_lt
  have h3 := numB_ten (signN_lt i.x.toInt (i64_bd i.x).1 (i64_bd i.x).2)
  simp only [itB, List.length_cons, List.length_append]; omega

set_option maxRecDepth 100000 in
set_option maxHeartbeats 3200000 in
theorem bytes_any (A : Option Addr) (n c : Nat) (bs : List UInt8) (Q : Option Addr) (m d : Nat) (l : List It) (w : World) (hr : Rd w w.heap.size 1 A n (bvs bs)) (hq : Rd w w.heap.size 5 Q m (itcs l)) (hn : n ≤ 1099511627000) (hm : m ≤ 9223372036854775807) :
    Calls Tryz.prog 42 #[.slice A n c, .slice Q m d] w fun e w' => ∃ A' n' c', e = .returned (.tuple #[.slice A' n' c', .int .i64 (bytesE l : Int)]) ∧ OwnB w' w.heap.size A' n' c' (bytesL bs l) ∧ Up w w' := by
  have HN := Lib.hid hr.blen
  have HM := Lib.hid hq.ilen
  have nil0 : ∀ w0, OwnB w0 w.heap.size none 0 0 [] := fun w0 => World.ownsRow_nil _ _ _ _
  have NIL := Lib.hid nil0
  clear nil0
  by_cases hbig : 2000 < m
  · have hE : Hid (bytesE l = 2) := by show _ = _; unfold bytesE; rw [if_pos (by rw [← HM.out]; exact hbig)]
    go_enter Tryz.func42, Tryz.ntmps42
    go_wp2_with fail
    go_ret2
    rw [hE.out, bytesL_no (by rw [hE.out]; omega)]
    exact ⟨none, 0, 0, rfl, NIL.out _, Up.refl _⟩
  cases hall : l.all okB
  · have hE : Hid (bytesE l = 1) := by show _ = _; unfold bytesE; rw [if_neg (by rw [← HM.out]; exact hbig), hall]; rfl
    have HA := Lib.hid hall
    clear hall
    go_enter Tryz.func42, Tryz.ntmps42
    go_wp2_with fail
    refine (all_any Q m d l w hq hm).mono ?_
    rintro e w1 ⟨rfl, hu⟩
    rw [HA.out]
    go_wp2_with fail
    go_ret2
    rw [hE.out, bytesL_no (by rw [hE.out]; omega)]
    exact ⟨none, 0, 0, rfl, NIL.out _, hu⟩
  · have hE : Hid (bytesE l = 0) := by show _ = _; unfold bytesE; rw [if_neg (by rw [← HM.out]; exact hbig), hall]; rfl
    have HA := Lib.hid hall
    clear hall
    go_enter Tryz.func42, Tryz.ntmps42
    go_wp2_with fail
    refine (all_any Q m d l w hq hm).mono ?_
    rintro e w1 ⟨rfl, hu1⟩
    rw [HA.out]
    go_wp2_with fail
    refine (put_any A n c bs m w1 (hr.up hu1) (by omega) (by omega)).mono ?_
    rintro e w2 ⟨A2, n2, c2, rfl, ho2, hu2⟩
    have hu12 := hu1.trans hu2
    go_wp2_with fail
    go_loopw [7, 25] (fun v i wr => ∃ (k : Nat) (R : Option Addr) (rn rc : Nat), i = .int .i64 (k : Int) ∧ v = .slice R rn rc ∧ k ≤ m ∧ rn ≤ 32 * k ∧ OwnB wr w2.heap.size R rn rc ((l.take k).flatMap itB) ∧ Up w2 wr) (fun _ i _ => m - (intOf i).toNat)
    case atStart => exact ⟨0, none, 0, 0, rfl, rfl, by omega, by omega, World.ownsRow_nil _ _ _ _, Up.refl _⟩
    case round =>
      obtain ⟨k, R, rn, rc, rfl, rfl, hk, hrn, hown, hu⟩ := hrel
      by_cases hlt : k < m
      · obtain ⟨b, o, i, rfl, hb, hik, x0, x1, x2, x3, x4⟩ := (hq.stay (Nat.le_refl _) (hu12.trans hu)).item_at hlt
        have HI := Lib.hid hik
        clear hik
        have hbi := i64_bd i.x
        obtain ⟨hbi1, hbi2⟩ := hbi
        go_wp2_with (at_builtin; refine wpList_append_rd _ bytesT (news := bvs [byteOf i.s.toInt, byteOf i.k.toInt]) (World.ownsRow.alloc (World.ownsRow.alloc hown _) _) (Rd.lit_at _ _ _ _ (by simp) (by simp [bvs, bv_byteOf])) (bvs_one _) (by simp; omega) (by simp; omega) (by simp; have := hu.size; omega) rfl rfl rfl rfl ?_; intro v3 w3 hown3 hg3 hat3; obtain ⟨R3, rc3, rfl⟩ := own_form hown3)
        have hx3 := ((Rd.item wr i 37).alloc (by simp) (.cells #[.int .u8 (i.s.toInt % 256), .int .u8 (i.k.toInt % 256)] 5)).far (by omega) hg3 (by simp; omega) (fun e => by have := (hown.lt _ e.symm).2; omega)
        obtain ⟨g0, g1, g2, g3, g4⟩ := five_cells hx3
        have hu3 : Up w2 w3 := (((hu.alloc _).alloc _).grown hg3 (fun g hg => (hown.lt g hg).1))
        clear hx3 g0 g1 x0 x1 x2 x3 x4
        go_wp2_with fail
        go_region_held3 (fun W => W.cell? ⟨wr.heap.size, 2, none⟩ = some (.int .u64 (i.t.toNat : Int)) ∧ W.cell? ⟨wr.heap.size, 3, none⟩ = some (.int .u64 (i.v.toNat : Int)) ∧ W.cell? ⟨wr.heap.size, 4, none⟩ = some (.int .i64 i.x.toInt)) (first | exact ⟨g2, g3, g4⟩ | go_keep)
          (first | (go_at_call 70; refine (sign_any _ _ (by omega) (by omega)).mono ?_; rintro e w' ⟨rfl, rfl⟩))
        go_wp2_with fail
        have hlit : Rd (w3.drew.alloc (.cells #[.int .u64 (i.t.toNat : Int), .int .u64 (i.v.toNat : Int), .int .u64 (signN i.x.toInt : Int)] 35)) (w3.heap.size + 1) 1 (some ⟨w3.heap.size, 0, none⟩) 3 (nvs [i.t.toNat, i.v.toNat, signN i.x.toInt]) := by
          have := Rd.made (sz := 1) (n := 3) w3.drew #[.int .u64 (i.t.toNat : Int), .int .u64 (i.v.toNat : Int), .int .u64 (signN i.x.toInt : Int)] 35 rfl
          rw [World.size_alloc] at this
          exact this
        have hns : ∀ j, j < 3 → ([i.t.toNat, i.v.toNat, signN i.x.toInt].getD j 0 : Int) ≤ 18446744073709551615 := by
          intro j hj
          have h1 := i.t.toNat_lt
          have h2 := i.v.toNat_lt
          have h3 := signN_lt i.x.toInt (by omega) (by omega)
          match j, hj with
          | 0, _ => simp; omega
          | 1, _ => simp; omega
          | 2, _ => simp; omega
        have hitB : itB i = [byteOf i.s.toInt, byteOf i.k.toInt] ++ [i.t.toNat, i.v.toNat, signN i.x.toInt].flatMap numB := by simp [itB]
        have hr3n : rn + [byteOf i.s.toInt, byteOf i.k.toInt].length = rn + 2 := rfl
        rw [hr3n, ← bvs_append] at hown3
        have HNS := Lib.hid hns
        have HIT := Lib.hid hitB
        clear hns hitB hr3n g2 g3 g4
        obtain ⟨ns, hns0⟩ : ∃ ns, [i.t.toNat, i.v.toNat, signN i.x.toInt] = ns := ⟨_, rfl⟩
        have hns3 : ns.length = 3 := by rw [← hns0]; rfl
        rw [hns0] at hlit HNS HIT
        have hne3 : R3 ≠ some ⟨w3.heap.size, 0, none⟩ := by
          intro e; subst e
          have := (hown3.lt w3.heap.size rfl).2; omega
        clear hns0
        go_loopw [7, 47] (fun v j ws => ∃ (q : Nat) (S : Option Addr) (sn sc : Nat), j = .int .i64 (q : Int) ∧ v = .slice S sn sc ∧ q ≤ 3 ∧ sn ≤ rn + 2 + 10 * q ∧ OwnB ws w2.heap.size S sn sc ((l.take k).flatMap itB ++ [byteOf i.s.toInt, byteOf i.k.toInt] ++ (ns.take q).flatMap numB) ∧ Hid (S ≠ some ⟨w3.heap.size, 0, none⟩) ∧ Rd ws (w3.heap.size + 1) 1 (some ⟨w3.heap.size, 0, none⟩) 3 (nvs ns) ∧ Up w2 ws ∧ w3.heap.size < ws.heap.size) (fun _ j _ => 3 - (intOf j).toNat)
        case atStart => exact ⟨0, R3, rn + 2, rc3, rfl, rfl, by omega, by omega, by rw [List.take_zero, List.flatMap_nil, List.append_nil]; exact World.ownsRow.alloc hown3 _, hne3, hlit, (hu3.drew).alloc _, by simp⟩
        case round =>
          obtain ⟨q, S, sn, sc, rfl, rfl, hq3, hsn, hows, hne, hlt3, hus, hsz⟩ := hrel
          clear hlit hown3 hne3 hu3 hg3 hat3
          by_cases hq' : q < 3
          · obtain ⟨b5, o5, e5, hb5, hc5⟩ := hlt3.nat hq'
            injection e5 with e5
            injection e5 with e6 e7
            subst e6; subst e7
            rw [Nat.zero_add] at hc5
            have hv := HNS.out q hq'
            have htk : ns.take (q + 1) = ns.take q ++ [ns.getD q 0] := by
              rw [List.take_succ_eq_append_getElem (by omega)]; simp [List.getD, hns3, hq']
            generalize ns.getD q 0 = x at hc5 hv htk
            have HTK := Lib.hid htk
            clear htk
            have hxl := numB_ten (n := x) (by omega)
            go_wp2_with fail
            refine (put_any none 0 0 [] x _ Rd.empty (by omega) hv).mono ?_
            rintro e w5 ⟨A5, n5, c5, rfl, ho5, hu5⟩
            rw [List.nil_append] at ho5
            have hn5 := ho5.len
            have hn5b : n5 ≤ 10 := by omega
            have HN5 := Lib.hid hn5
            clear hn5 hxl
            have hk32 : sn ≤ 64100 := by omega
            go_wp2_with (at_builtin; refine wpList_append_rd _ bytesT (hows.up hu5) ho5.rd (bvs_one _) (by omega) (by omega) (by have := hus.size; have := hu5.size; omega) rfl rfl rfl rfl ?_; intro v6 w6 hown6 hg6 hat6; obtain ⟨S6, sc6, rfl⟩ := own_form hown6)
            have hlt5 : w3.heap.size < w5.heap.size := Nat.lt_of_lt_of_le hsz hu5.size
            have hnb : ∀ g, some g = (Value.slice S sn sc).ownBlock → g < w5.heap.size ∧ g ≠ w3.heap.size := by
              intro g hg
              have h1 := ((hows.up hu5).lt g hg.symm).2
              refine ⟨h1, fun e => hne.out ?_⟩
              subst e
              obtain ⟨g', hS, _⟩ : ∃ g', S = some ⟨g', 0, none⟩ ∧ True := by
                rcases hows.2 with ⟨hv', _⟩ | ⟨g', _, _, hv', _⟩
                · injection hv' with hS _ _; subst hS; simp [Value.ownBlock] at hg
                · injection hv' with hS _ _; exact ⟨g', hS, trivial⟩
              subst hS
              simp [Value.ownBlock] at hg
              rw [hg]
            go_roundw
            case rel =>
              refine ⟨q + 1, S6, sn + n5, sc6, by go_num, rfl, by omega, by omega, ?_, ?_, ?_, (hus.trans hu5).grown hg6 (fun g hg => ((hows.up hu5).lt g hg).1), Nat.lt_of_lt_of_le hlt5 hg6.size⟩
              · show World.ownsRow _ _ _ _ _ _ _
                rw [HTK.out, List.flatMap_append, ← List.append_assoc, bvs_append]
                simpa using hown6
              · intro e
                subst e
                rcases hat6 with h | h
                · exact (hnb w3.heap.size (by simpa [Value.ownBlock] using h)).2 rfl
                · simp [Value.ownBlock] at h; omega
              · exact (hlt3.stay hsz hu5).far (by omega) hg6 hlt5 (fun e => (hnb _ e).2 rfl)
            case measure => simp [intOf]; omega
          · have hq3' : q = 3 := by omega
            subst hq3'
            go_wp2_with fail
            go_roundw
            case rel =>
              refine ⟨k + 1, S, sn, sc, by go_num, rfl, by omega, by omega, ?_, hus⟩
              have hkl : k < l.length := by have := HM.out; omega
              have hti : l.take (k + 1) = l.take k ++ [i] := by
                rw [List.take_succ_eq_append_getElem hkl]
                have := HI.out
                rw [List.getElem?_eq_getElem hkl] at this
                injection this with this
                rw [this]
              rw [show ns.take 3 = ns from List.take_of_length_le (by omega)] at hows
              rw [hti, List.flatMap_append, List.flatMap_singleton, HIT.out, ← List.append_assoc]
              exact hows
            case measure => simp [intOf]; omega
      · have hkm : k = m := by omega
        subst hkm
        have hrow : (l.take k).flatMap itB = l.flatMap itB := by rw [List.take_of_length_le (by have := HM.out; omega)]
        rw [hrow] at hown
        have hn2 : n2 ≤ n + 10 := by have h1 := ho2.len; have h2 := numB_ten (n := k) (by omega); have h3 := HN.out; rw [List.length_append] at h1; omega
        have ho2' : OwnB wr w.heap.size A2 n2 c2 (bs ++ numB k) := own_base (ho2.up hu) hu1.size
        clear hrow ho2
        go_wp2_with (at_builtin; refine wpList_append_rd _ bytesT ho2' hown.rd (bvs_one _) (by omega) (by omega) (hu12.trans hu).size rfl rfl rfl rfl ?_; intro v6 w6 hown6 hg6 hat6; obtain ⟨S6, sc6, rfl⟩ := own_form hown6)
        go_ret2
        rw [hE.out, bytesL_yes hE.out]
        refine ⟨S6, _, sc6, rfl, ?_, (hu12.trans hu).grown hg6 (fun g hg => (ho2'.lt g hg).1)⟩
        show World.ownsRow _ _ _ _ _ _ _
        rw [itemsB, ← HM.out, ← List.append_assoc, bvs_append]
        exact hown6
end Go.Proofs.YtfmjgkfblejknaaGreat

/-
  The walks of the laws of items: awake, Some; of the document's May, Equal.
-/
namespace Go.Proofs.YtfmjgkfblejknaaGreat
open Go.RowKit
set_option linter.unusedVariables false

/-- what stays as it is in whatever world behind w -/
theorem cells_stay {w : World} {B g : Nat} {i : It} (h : Rd w B 5 (some ⟨g, 0, none⟩) 1 (itc i)) (hB : B ≤ w.heap.size) : ∀ W, Up w W →
    W.cell? ⟨g, 0, none⟩ = some (.int .i64 i.s.toInt) ∧ W.cell? ⟨g, 1, none⟩ = some (.int .i64 i.k.toInt) ∧ W.cell? ⟨g, 2, none⟩ = some (.int .u64 (i.t.toNat : Int)) ∧ W.cell? ⟨g, 3, none⟩ = some (.int .u64 (i.v.toNat : Int)) ∧ W.cell? ⟨g, 4, none⟩ = some (.int .i64 i.x.toInt) :=
  fun _ hW => five_cells (h.stay hB hW)

theorem lit_stay (w : World) (i : It) (cs : Array Value) (t : TypeId) {g : Nat} (hg : w.heap.size = g) (h : cs.toList = itc i) : ∀ W, Up (w.alloc (.cells cs t)) W →
    W.cell? ⟨g, 0, none⟩ = some (.int .i64 i.s.toInt) ∧ W.cell? ⟨g, 1, none⟩ = some (.int .i64 i.k.toInt) ∧ W.cell? ⟨g, 2, none⟩ = some (.int .u64 (i.t.toNat : Int)) ∧ W.cell? ⟨g, 3, none⟩ = some (.int .u64 (i.v.toNat : Int)) ∧ W.cell? ⟨g, 4, none⟩ = some (.int .i64 i.x.toInt) := by
  have h1 := Rd.ilit_at w [i] cs t hg (by simp [itcs, h])
  simp only [itcs, List.flatMap_singleton, List.length_singleton] at h1
  exact cells_stay h1 (Nat.le_refl _)

/-- a literal of five cells -/
theorem cells5 (w : World) (v0 v1 v2 v3 v4 : Value) (t : TypeId) {g : Nat} (hg : w.heap.size = g) : ∀ W, Up (w.alloc (.cells #[v0, v1, v2, v3, v4] t)) W →
    W.cell? ⟨g, 0, none⟩ = some v0 ∧ W.cell? ⟨g, 1, none⟩ = some v1 ∧ W.cell? ⟨g, 2, none⟩ = some v2 ∧ W.cell? ⟨g, 3, none⟩ = some v3 ∧ W.cell? ⟨g, 4, none⟩ = some v4 := by
  subst hg
  intro W hW
  have h : ∀ j, W.cell? ⟨w.heap.size, j, none⟩ = (w.alloc (.cells #[v0, v1, v2, v3, v4] t)).cell? ⟨w.heap.size, j, none⟩ := fun j => hW.cell (by simp)
  have h2 : ∀ j, W.cell? ⟨w.heap.size, j, none⟩ = #[v0, v1, v2, v3, v4][j]? := fun j => by rw [h j, World.cell?_alloc_at (w := w) _ t _ _ rfl]
  exact ⟨h2 0, h2 1, h2 2, h2 3, h2 4⟩
/-- a contract that turns nothing that is there, told from a world behind which the call stands -/
theorem keepUp {P : Program} {f : FuncId} {args : Array Value} {v : Value} (h : ∀ W, Calls P f args W fun e w' => e = .returned v ∧ Up W w') (w3 : World) : Hid (∀ W, Up w3 W → Calls P f args W fun e w' => e = .returned v ∧ Up w3 w') :=
  fun W hW => (h W).mono fun e w' ⟨he, hu⟩ => ⟨he, hW.trans hu⟩

end Go.Proofs.YtfmjgkfblejknaaGreat

/-
  Plain laws of numbers as bytes.
-/
namespace Go.Proofs.YtfmjgkfblejknaaGreat
open Go.RowKit
set_option linter.unusedVariables false

theorem pow_split (x i : Nat) : x % 128 * 128 ^ i + x / 128 * 128 ^ (i + 1) = x * 128 ^ i := by
  have h := Nat.mod_add_div x 128
  calc x % 128 * 128 ^ i + x / 128 * 128 ^ (i + 1) = (x % 128 + 128 * (x / 128)) * 128 ^ i := by rw [Nat.pow_succ, Nat.add_mul]; congr 1; rw [Nat.mul_comm 128, Nat.mul_assoc, Nat.mul_comm 128]
    _ = x * 128 ^ i := by rw [h]
theorem takeGo_numB (r : List UInt8) : ∀ (n x i acc : Nat), x ≤ n → i ≤ 9 → x < 2 ^ (64 - 7 * i) → (0 < i → 0 < x) → takeGo (numB x ++ r) i acc = (acc + x * 128 ^ i, i + (numB x).length, 0) := by
  intro n
  induction n with
  | zero =>
    intro x i acc hx hi h1 h2
    have h0 : x = 0 := by omega
    subst h0
    have : i = 0 := by rcases Nat.eq_zero_or_pos i with h | h; exact h; exact absurd (h2 h) (by omega)
    subst this
    rw [numB_lo (by omega)]
    exact takeGo_end (by simp) (by decide)
  | succ n ih =>
    intro x i acc hx hi h1 h2
    by_cases hlt : x < 128
    · rw [numB_lo hlt]
      have e : (UInt8.ofNat x).toNat = x := by simp; omega
      rw [List.cons_append, List.nil_append, takeGo_end, e]
      · rw [Nat.mod_eq_of_lt hlt]; rfl
      · rw [e]
        rintro (⟨h9, hx1⟩ | ⟨h0, hx0⟩)
        · subst h9; simp at h1; omega
        · have := h2 h0; omega
      · rw [e]; exact hlt
    · rw [numB_hi hlt]
      have e : (UInt8.ofNat (x % 128 + 128)).toNat = x % 128 + 128 := by simp; omega
      have h8 : i ≤ 8 := by
        rcases Nat.lt_or_ge i 9 with h | h
        · omega
        · have : i = 9 := by omega
          subst this; simp at h1; omega
      rw [List.cons_append, takeGo_more, e, ih (x / 128) (i + 1) _ (by omega) (by omega) ?_ (fun _ => by omega)]
      · rw [show (x % 128 + 128) % 128 = x % 128 by omega, Nat.add_assoc, pow_split, List.length_cons]
        simp only [Prod.mk.injEq, and_true, true_and]; omega
      · rw [Nat.div_lt_iff_lt_mul (by decide), show (128 : Nat) = 2 ^ 7 from rfl, ← Nat.pow_add]
        rw [show 64 - 7 * (i + 1) + 7 = 64 - 7 * i by omega]; exact h1
      · rw [e]; omega
      · rw [e]; omega
theorem takeL_numB (x : Nat) (r : List UInt8) (hx : x < 18446744073709551616) : takeL (numB x ++ r) = (x, (numB x).length, 0) := by
  have := takeGo_numB r x x 0 0 (Nat.le_refl _) (by omega) (by simpa using hx) (fun h => absurd h (by omega))
  unfold takeL
  rw [this]; simp
theorem takeL_nil : takeL [] = (0, 0, 4) := rfl
theorem numsB_drop (q : List UInt64) (k : Nat) : (numsB q).drop (numsB (q.take k)).length = numsB (q.drop k) := by
  have : numsB q = numsB (q.take k) ++ numsB (q.drop k) := by unfold numsB; rw [← List.flatMap_append, List.take_append_drop]
  rw [this, List.drop_left]
theorem numsB_cons (x : UInt64) (q : List UInt64) : numsB (x :: q) = numB x.toNat ++ numsB q := by simp [numsB]
theorem foldN_eightB (x : Nat) (hx : x < 18446744073709551616) : foldN (eightB x) = x := by
  have e : eightB x = [UInt8.ofNat (x / 2 ^ 56), UInt8.ofNat (x / 2 ^ 48), UInt8.ofNat (x / 2 ^ 40), UInt8.ofNat (x / 2 ^ 32), UInt8.ofNat (x / 2 ^ 24), UInt8.ofNat (x / 2 ^ 16), UInt8.ofNat (x / 2 ^ 8), UInt8.ofNat (x / 2 ^ 0)] := rfl
  rw [e]
  simp only [foldN, List.foldl_cons, List.foldl_nil, UInt8.toNat_ofNat']
  omega
theorem uneightL_eightB (x : Nat) (hx : x < 18446744073709551616) : uneightL (eightB x) = (x, 0) := by
  unfold uneightL
  rw [eightB_len, if_neg (by omega), List.take_of_length_le (by rw [eightB_len]; omega), foldN_eightB x hx]
theorem numB_inj {a b : Nat} (ha : a < 18446744073709551616) (hb : b < 18446744073709551616) (h : numB a = numB b) : a = b := by
  have h1 := takeL_numB a [] ha
  have h2 := takeL_numB b [] hb
  rw [h, h2] at h1
  exact (Prod.mk.inj h1).1.symm
theorem numB_mono : ∀ (n a b : Nat), b ≤ n → a ≤ b → (numB a).length ≤ (numB b).length := by
  intro n
  induction n with
  | zero => intro a b hb hab; rw [show a = b by omega]; exact Nat.le_refl _
  | succ n ih =>
    intro a b hb hab
    by_cases h1 : a < 128
    · rw [numB_lo h1]; exact numB_pos b
    · rw [numB_hi h1, numB_hi (show ¬ b < 128 by omega)]
      have := ih (a / 128) (b / 128) (by omega) (Nat.div_le_div_right hab)
      simp only [List.length_cons]; omega
/-- what bytes come to as one number, the highest first -/
def valB : List UInt8 → Nat
  | [] => 0
  | c :: r => c.toNat * 256 ^ r.length + valB r
theorem valB_lt (l : List UInt8) : valB l < 256 ^ l.length := by
  induction l with
  | nil => simp [valB]
  | cons c r ih =>
    have hc := c.toNat_lt
    have h1 : c.toNat * 256 ^ r.length ≤ 255 * 256 ^ r.length := Nat.mul_le_mul_right _ (by omega)
    simp only [valB, List.length_cons, Nat.pow_succ]; omega
theorem foldl_valB (l : List UInt8) : ∀ a : Nat, l.foldl (fun a c => a * 256 + c.toNat) a = a * 256 ^ l.length + valB l := by
  induction l with
  | nil => intro a; simp [valB]
  | cons c r ih =>
    intro a
    rw [List.foldl_cons, ih, valB, List.length_cons, Nat.pow_succ, Nat.add_mul, Nat.mul_assoc, Nat.mul_comm 256, Nat.add_assoc]
theorem foldN_valB (l : List UInt8) : foldN l = valB l := by unfold foldN; rw [foldl_valB]; simp
theorem less_valB : ∀ (l m : List UInt8), l.length = m.length → Op.bytesLess l m = decide (valB l < valB m)
  | [], [], _ => by simp [Op.bytesLess]
  | c :: r, d :: s, h => by
    have hl : r.length = s.length := by simpa using h
    have ih := less_valB r s hl
    have h1 := valB_lt r
    have h2 := valB_lt s
    rw [hl] at h1
    simp only [Op.bytesLess, valB, ih, hl]
    by_cases hcd : c < d
    · have hcd' : c.toNat < d.toNat := UInt8.lt_iff_toNat_lt.1 hcd
      have hm : (c.toNat + 1) * 256 ^ s.length ≤ d.toNat * 256 ^ s.length := Nat.mul_le_mul_right _ hcd'
      rw [Nat.add_mul] at hm
      have : c.toNat * 256 ^ s.length + valB r < d.toNat * 256 ^ s.length + valB s := by omega
      simp [hcd, this]
    · by_cases he : c = d
      · subst he; simp
      · have hcd' : d.toNat < c.toNat := by
          have h3 : ¬ c.toNat < d.toNat := fun h => hcd (UInt8.lt_iff_toNat_lt.2 h)
          have h4 : c.toNat ≠ d.toNat := fun h => he (UInt8.toNat_inj.1 h)
          omega
        have hm : (d.toNat + 1) * 256 ^ s.length ≤ c.toNat * 256 ^ s.length := Nat.mul_le_mul_right _ hcd'
        rw [Nat.add_mul] at hm
        have : ¬ c.toNat * 256 ^ s.length + valB r < d.toNat * 256 ^ s.length + valB s := by omega
        simp [hcd, he, this]
theorem less_eightB {a b : Nat} (ha : a < 18446744073709551616) (hb : b < 18446744073709551616) : Op.bytesLess (eightB a) (eightB b) = decide (a < b) := by
  rw [less_valB _ _ (by rw [eightB_len, eightB_len]), ← foldN_valB, ← foldN_valB, foldN_eightB a ha, foldN_eightB b hb]
theorem eightB_inj {a b : Nat} (ha : a < 18446744073709551616) (hb : b < 18446744073709551616) (h : eightB a = eightB b) : a = b := by
  rw [← foldN_eightB a ha, ← foldN_eightB b hb, h]
/-! ### lists -/
theorem takeGo_cut : ∀ (n x j i acc : Nat), x ≤ n → i ≤ 9 → x < 2 ^ (64 - 7 * i) → (0 < i → 0 < x) → j < (numB x).length → takeGo ((numB x).take j) i acc = (0, 0, 4) := by
  intro n
  induction n with
  | zero =>
    intro x j i acc hx hi h1 h2 hj
    have h0 : x = 0 := by omega
    subst h0
    rw [numB_lo (by omega)] at hj ⊢
    have : j = 0 := by simpa using hj
    subst this
    rfl
  | succ n ih =>
    intro x j i acc hx hi h1 h2 hj
    by_cases hlt : x < 128
    · rw [numB_lo hlt] at hj ⊢
      have : j = 0 := by simpa using hj
      subst this
      rfl
    · rw [numB_hi hlt] at hj ⊢
      have e : (UInt8.ofNat (x % 128 + 128)).toNat = x % 128 + 128 := by simp; omega
      have h8 : i ≤ 8 := by
        rcases Nat.lt_or_ge i 9 with h | h
        · omega
        · have : i = 9 := by omega
          subst this; simp at h1; omega
      cases j with
      | zero => rfl
      | succ j =>
        rw [List.take_succ_cons, takeGo_more, e]
        · refine ih (x / 128) j (i + 1) _ (by omega) (by omega) ?_ (fun _ => by omega) (by simpa using hj)
          rw [Nat.div_lt_iff_lt_mul (by decide), show (128 : Nat) = 2 ^ 7 from rfl, ← Nat.pow_add]
          rw [show 64 - 7 * (i + 1) + 7 = 64 - 7 * i by omega]; exact h1
        · rw [e]; omega
        · rw [e]; omega
theorem takeL_cut {x j : Nat} (hx : x < 18446744073709551616) (hj : j < (numB x).length) : takeL ((numB x).take j) = (0, 0, 4) :=
  takeGo_cut x x j 0 0 (Nat.le_refl _) (by omega) (by simpa using hx) (fun h => absurd h (by omega)) hj
theorem unGo_full (q : List UInt64) : ∀ (pre r : List UInt8) (acc : List UInt64), unGo q.length (pre ++ (numsB q ++ r)) pre.length acc = (acc ++ q, pre.length + (numsB q).length, 0) := by
  induction q with
  | nil => intro pre r acc; simp [unGo, numsB]
  | cons x q ih =>
    intro pre r acc
    rw [List.length_cons, unGo, List.drop_left, numsB_cons, List.append_assoc, takeL_numB _ _ x.toNat_lt]
    have h := ih (pre ++ numB x.toNat) r (acc ++ [UInt64.ofNat x.toNat])
    rw [List.length_append, List.append_assoc] at h
    simp only [if_true]
    rw [h]
    simp [Nat.add_assoc]
theorem unGo_cut (q : List UInt64) : ∀ (pre : List UInt8) (j : Nat) (acc : List UInt64), j < (numsB q).length → unGo q.length (pre ++ (numsB q).take j) pre.length acc = ([], 0, 4) := by
  induction q with
  | nil => intro pre j acc h; simp [numsB] at h
  | cons x q ih =>
    intro pre j acc hj
    rw [numsB_cons] at hj ⊢
    rw [List.length_cons, unGo, List.drop_left]
    by_cases h : j < (numB x.toNat).length
    · rw [List.take_append_of_le_length (by omega), takeL_cut x.toNat_lt h]; simp
    · have e : (numB x.toNat ++ numsB q).take j = numB x.toNat ++ (numsB q).take (j - (numB x.toNat).length) := by
        rw [List.take_append]
        rw [List.take_of_length_le (by omega)]
      rw [e, takeL_numB _ _ x.toNat_lt]
      have h2 := ih (pre ++ numB x.toNat) (j - (numB x.toNat).length) (acc ++ [UInt64.ofNat x.toNat]) (by rw [List.length_append] at hj; omega)
      rw [List.length_append, List.append_assoc] at h2
      simp only [if_true]
      exact h2
theorem unlist_full (q : List UInt64) (r : List UInt8) (most : Int) (hq : q.length < 18446744073709551616) (hm : (q.length : Int) ≤ most) : unlistL (listB q ++ r) most = (q, (listB q).length, 0) := by
  unfold unlistL listB
  rw [List.append_assoc, takeL_numB _ _ hq]
  rw [if_neg (by simp), if_neg (by split <;> omega)]
  rw [unGo_full]
  simp
theorem unlist_long (q : List UInt64) (r : List UInt8) (most : Int) (hq : q.length < 18446744073709551616) (hm : most < (q.length : Int)) (h0 : 0 < q.length) : unlistL (listB q ++ r) most = ([], 0, 2) := by
  unfold unlistL listB
  rw [List.append_assoc, takeL_numB _ _ hq]
  rw [if_neg (by simp), if_pos (by split <;> omega)]
theorem unlist_cut (q : List UInt64) (j : Nat) (most : Int) (hq : q.length < 18446744073709551616) (hm : (q.length : Int) ≤ most) (hj : j < (listB q).length) : unlistL ((listB q).take j) most = ([], 0, 4) := by
  unfold unlistL
  by_cases h : j < (numB q.length).length
  · have e : (listB q).take j = (numB q.length).take j := by unfold listB; rw [List.take_append_of_le_length (by omega)]
    rw [e, takeL_cut hq h]; simp
  · have e : (listB q).take j = numB q.length ++ (numsB q).take (j - (numB q.length).length) := by
      unfold listB; rw [List.take_append, List.take_of_length_le (by omega)]
    rw [e, takeL_numB _ _ hq, if_neg (by simp), if_neg (by split <;> omega)]
    exact unGo_cut q _ _ _ (by unfold listB at hj; rw [List.length_append] at hj; omega)
theorem listB_pos (q : List UInt64) : 1 ≤ (listB q).length := by unfold listB; rw [List.length_append]; have := numB_pos q.length; omega
theorem listB_len (q : List UInt64) (hq : q.length < 18446744073709551616) : (listB q).length ≤ 10 + 10 * q.length := by
  unfold listB; rw [List.length_append]; have := numB_ten hq; have := numsB_len q; omega

theorem unGo_len : ∀ (k : Nat) (l : List UInt8) (a : Nat) (acc : List UInt64), (unGo k l a acc).1.length ≤ acc.length + (l.length - a)
  | 0, l, a, acc => by simp only [unGo]; omega
  | k + 1, l, a, acc => by
    rw [unGo]
    split
    · rename_i h
      have h2 := takeL_ok h
      have h3 := unGo_len k l (a + (takeL (l.drop a)).2.1) (acc ++ [UInt64.ofNat (takeL (l.drop a)).1])
      simp only [List.length_append, List.length_singleton, List.length_drop] at h2 h3
      omega
    · simp
theorem unlistL_len (l : List UInt8) (most : Int) : (unlistL l most).1.length ≤ l.length := by
  have h := unGo_len (takeL l).1 l (takeL l).2.1 []
  simp only [List.length_nil] at h
  unfold unlistL
  by_cases h1 : (takeL l).2.2 ≠ 0
  · rw [if_pos h1]; simp
  · rw [if_neg h1]
    by_cases h2 : (if most < 0 then 0 else most) < ((takeL l).1 : Int)
    · rw [if_pos h2]; simp
    · rw [if_neg h2]; omega

/-! ### numbers that are none -/
/-- a byte more than is needed: the last byte's highest bit set, nought behind it -/
theorem takeGo_more0 : ∀ (n x i acc : Nat), x ≤ n → ∀ l c, numB x = l ++ [c] → takeGo (l ++ [UInt8.ofNat (c.toNat % 128 + 128), 0]) i acc = (0, 0, 3) := by
  intro n
  induction n with
  | zero =>
    intro x i acc hx l c h
    rw [numB_lo (by omega)] at h
    cases l with
    | nil => exact step0 i acc _
    | cons d l => have := congrArg List.length h; simp at this
  | succ n ih =>
    intro x i acc hx l c h
    by_cases hlt : x < 128
    · rw [numB_lo hlt] at h
      cases l with
      | nil => exact step0 i acc _
      | cons d l => have := congrArg List.length h; simp at this
    · rw [numB_hi hlt] at h
      cases l with
      | nil =>
        have h1 := numB_pos (x / 128)
        have := congrArg List.length h; simp at this
        rw [this] at h1; simp at h1
      | cons d l =>
        rw [List.cons_append, List.cons.injEq] at h
        obtain ⟨rfl, h2⟩ := h
        rw [List.cons_append]
        by_cases hf : (i = 9 ∧ 1 < (UInt8.ofNat (x % 128 + 128)).toNat) ∨ (0 < i ∧ (UInt8.ofNat (x % 128 + 128)).toNat = 0)
        · exact takeGo_form hf
        · rw [takeGo_more hf (by simp; omega)]
          exact ih (x / 128) _ _ (by omega) l c h2
where
  step0 (i acc : Nat) (c : UInt8) : takeGo ([] ++ [UInt8.ofNat (c.toNat % 128 + 128), 0]) i acc = (0, 0, 3) := by
    rw [List.nil_append]
    by_cases hf : (i = 9 ∧ 1 < (UInt8.ofNat (c.toNat % 128 + 128)).toNat) ∨ (0 < i ∧ (UInt8.ofNat (c.toNat % 128 + 128)).toNat = 0)
    · exact takeGo_form hf
    · rw [takeGo_more hf (by simp; omega)]
      exact takeGo_form (.inr ⟨by omega, rfl⟩)
theorem takeL_more0 {x : Nat} {l : List UInt8} {c : UInt8} (h : numB x = l ++ [c]) : takeL (l ++ [UInt8.ofNat (c.toNat % 128 + 128), 0]) = (0, 0, 3) :=
  takeGo_more0 x x 0 0 (Nat.le_refl _) l c h
theorem takeL_great (c : UInt8) (h : 1 < c.toNat) : takeL [255, 255, 255, 255, 255, 255, 255, 255, 255, c] = (0, 0, 3) := by
  unfold takeL
  iterate 9 (rw [takeGo_more (by decide) (by decide)])
  exact takeGo_form (.inl ⟨rfl, h⟩)

/-! ### a mask -/
theorem i64_and_le (a : Int) (m : Nat) (hm : m < 9223372036854775808) : ∃ k : Nat, bits .and .i64 a (m : Int) = (k : Int) ∧ k ≤ m := by
  refine ⟨(BitVec.ofInt 64 a).toNat &&& m, ?_, Nat.and_le_right⟩
  have hk : (BitVec.ofInt 64 a).toNat &&& m ≤ m := Nat.and_le_right
  show IntKind.i64.wrap ((BitVec.ofInt 64 a &&& BitVec.ofInt 64 (m : Int)).toNat : Int) = _
  rw [BitVec.toNat_and, ofInt_u64 m (by omega), IntKind.wrap_i64]
  omega
end Go.Proofs.YtfmjgkfblejknaaGreat

/-
  The walks of the document's May and Equal; of the law's Some.
-/
namespace Go.Proofs.YtfmjgkfblejknaaGreat
open Go.RowKit
set_option linter.unusedVariables false

theorem u64_and_le (a : Int) (m : Nat) (hm : m < 9223372036854775808) : ∃ k : Nat, bits .and .u64 a (m : Int) = (k : Int) ∧ k ≤ m := by
  refine ⟨(BitVec.ofInt 64 a).toNat &&& m, ?_, Nat.and_le_right⟩
  have hk : (BitVec.ofInt 64 a).toNat &&& m ≤ m := Nat.and_le_right
  show IntKind.u64.wrap ((BitVec.ofInt 64 a &&& BitVec.ofInt 64 (m : Int)).toNat : Int) = _
  rw [BitVec.toNat_and, ofInt_u64 m (by omega), IntKind.wrap_u64]
  omega


set_option maxRecDepth 100000 in
set_option maxHeartbeats 1600000 in
theorem equal_any (A B : Option Addr) (n c m d : Nat) (l : List It) (w : World) (ha : Rd w w.heap.size 5 A n (itcs l)) (hb : Rd w w.heap.size 5 B m (itcs l)) (hn : n ≤ 4611686018427387903) :
    Calls Tryz.prog 14 #[.slice A n c, .slice B m d] w fun e w' => e = .returned (.bool true) ∧ Up w w' := by
  obtain rfl : m = n := by have := ha.ilen; have := hb.ilen; omega
  have hne : ((m : Int) != (m : Int)) = false := by simp
  go_enter Tryz.func14, Tryz.ntmps14
  go_wp2
  go_loopw [5] (fun i wr => ∃ k : Nat, i = .int .i64 (k : Int) ∧ k ≤ m ∧ Up w wr) (fun i _ => m - (intOf i).toNat)
  case atStart => exact ⟨0, rfl, by omega, Up.refl _⟩
  case round =>
    obtain ⟨k, rfl, hk, hu⟩ := hrel
    by_cases hlt : k < m
    · obtain ⟨b1, o1, i1, rfl, hb1, hk1, c0, c1, c2, c3, c4⟩ := (ha.stay (Nat.le_refl _) hu).item_at hlt
      obtain ⟨b2, o2, i2, rfl, hb2, hk2, d0, d1, d2, d3, d4⟩ := (hb.stay (Nat.le_refl _) hu).item_at hlt
      obtain rfl : i1 = i2 := by rw [hk1] at hk2; injection hk2
      have hi0 : (0 : Int) ≤ (k : Int) := by omega
      have hi1 : (k : Int) < (m : Int) := by omega
      clear hk1 hk2 ha hb
      go_wp2_with fail
      go_quiet (fail)
      go_wp2_with fail
      go_roundw
      case rel => exact ⟨k + 1, by go_num, by omega, hu.drewN _⟩
      case measure => simp [intOf]; omega
    · go_wp2
      go_ret
      exact ⟨rfl, hu⟩

end Go.Proofs.YtfmjgkfblejknaaGreat

/-
  The walk of item.one: the item that bytes begin with.
-/
namespace Go.Proofs.YtfmjgkfblejknaaGreat
open Go.RowKit
set_option linter.unusedVariables false

/-- k numbers, one behind the other -/
def takesL : Nat → List Nat → List UInt8 → Nat × List Nat × List UInt8
  | 0, acc, l => (0, acc, l)
  | k + 1, acc, l => if (takeL l).2.2 = 0 then takesL k (acc ++ [(takeL l).1]) (l.drop (takeL l).2.1) else ((takeL l).2.2, [], [])
def mkIt (s k t v x : Nat) : It := ⟨Int64.ofInt s, Int64.ofInt k, UInt64.ofNat t, UInt64.ofNat v, Int64.ofInt (unsignZ x)⟩
def noIt : It := ⟨0, 0, 0, 0, 0⟩
/-- the error, the item, the bytes behind it -/
def oneL (l : List UInt8) : Nat × It × List UInt8 :=
  if l.length < 2 then (4, noIt, [])
  else if (takesL 3 [] (l.drop 2)).1 = 0 then (0, mkIt (l.getD 0 0).toNat (l.getD 1 0).toNat ((takesL 3 [] (l.drop 2)).2.1.getD 0 0) ((takesL 3 [] (l.drop 2)).2.1.getD 1 0) ((takesL 3 [] (l.drop 2)).2.1.getD 2 0), (takesL 3 [] (l.drop 2)).2.2)
  else ((takesL 3 [] (l.drop 2)).1, noIt, [])
theorem mkIt_c (s k t v x : Nat) (hs : s < 256) (hk : k < 256) (ht : t < 18446744073709551616) (hv : v < 18446744073709551616) (hx : x < 18446744073709551616) :
    itc (mkIt s k t v x) = [.int .i64 (s : Int), .int .i64 (k : Int), .int .u64 (t : Int), .int .u64 (v : Int), .int .i64 (unsignZ x)] := by
  have hb : -9223372036854775808 ≤ unsignZ x ∧ unsignZ x ≤ 9223372036854775807 := by unfold unsignZ; split <;> omega
  have e1 : ∀ n : Nat, n < 256 → (Int64.ofInt (n : Int)).toInt = (n : Int) := fun n hn => by rw [Int64.toInt_ofInt_of_le (by omega) (by simp; omega)]
  have ex : (Int64.ofInt (unsignZ x)).toInt = unsignZ x := by rw [Int64.toInt_ofInt_of_le (by simpa using hb.1) (by have := hb.2; simp; omega)]
  have e2 : ∀ n : Nat, n < 18446744073709551616 → ((UInt64.ofNat n).toNat : Int) = (n : Int) := fun n hn => by simp; omega
  simp only [itc, mkIt, e1 s hs, e1 k hk, e2 t ht, e2 v hv, ex]
theorem noIt_c : itc noIt = [.int .i64 0, .int .i64 0, .int .u64 0, .int .u64 0, .int .i64 0] := by kernel_rfl

set_option maxRecDepth 100000 in
set_option maxHeartbeats 3200000 in
theorem one_any (A : Option Addr) (n c : Nat) (l : List UInt8) (w : World) (B : Nat) (hB : B ≤ w.heap.size) (hr : Rd w B 1 A n (bvs l)) (hn : n ≤ 9223372036854775807) (hc : n ≤ c) :
    Calls Tryz.prog 87 #[.slice A n c] w fun e w' => ∃ A' n' c', e = .returned (.tuple #[.agg (itc (oneL l).2.1).toArray, .slice A' n' c', .int .i64 ((oneL l).1 : Int)]) ∧ Rd w' B 1 A' n' (bvs (oneL l).2.2) ∧ n' ≤ c' ∧ n' ≤ n ∧ Up w w' := by
  have HL := Lib.hid hr.blen
  have CUT := cut_from_b
  by_cases h2 : n < 2
  · have hv : oneL l = (4, noIt, []) := by unfold oneL; rw [if_pos (by rw [← HL.out]; exact h2)]
    have HV := Lib.hid hv
    clear hv
    go_enter Tryz.func87, Tryz.ntmps87
    go_wp2_with fail
    refine bodyPost_ret (v := .tuple #[.agg #[.int .i64 0, .int .i64 0, .int .u64 0, .int .u64 0, .int .i64 0], .slice none 0 0, .int .i64 4]) (by simp [results, Tryz.results87, go_sem]) rfl ?_
    rw [HV.out, noIt_c]
    exact ⟨none, 0, 0, rfl, Rd.empty, by omega, by omega, (Up.refl w).alloc _⟩
  · obtain ⟨b, o, rfl, hb, hc0⟩ := hr.byte (k := 0) (by omega)
    obtain ⟨b', o', e', _, hc1⟩ := hr.byte (k := 1) (by omega)
    injection e' with e'
    injection e' with e1 e2
    subst e1; subst e2
    have hbw : b < w.heap.size := by omega
    have hd := hr.bfrom (k := 2) (cap := c) (by omega) hc
    rw [Nat.add_zero] at hc0
    have hv : oneL l = if (takesL 3 [] (l.drop 2)).1 = 0 then (0, mkIt (l.getD 0 0).toNat (l.getD 1 0).toNat ((takesL 3 [] (l.drop 2)).2.1.getD 0 0) ((takesL 3 [] (l.drop 2)).2.1.getD 1 0) ((takesL 3 [] (l.drop 2)).2.1.getD 2 0), (takesL 3 [] (l.drop 2)).2.2)
        else ((takesL 3 [] (l.drop 2)).1, noIt, []) := by
      conv => lhs; unfold oneL
      rw [if_neg (by rw [← HL.out]; exact h2)]
    have HV := Lib.hid hv
    clear hv
    have hb0 := (l.getD 0 0).toNat_lt
    have hb1 := (l.getD 1 0).toNat_lt
    generalize (l.getD 0 0).toNat = b0 at *
    generalize (l.getD 1 0).toNat = b1 at *
    have hl2 : (l.drop 2).length = n - 2 := by rw [List.length_drop, HL.out]
    have HL2 := Lib.hid hl2
    clear hl2
    generalize l.drop 2 = l2 at *
    have w0 : wrap64 (b0 : Int) = b0 := by unfold wrap64; omega
    have w1 : wrap64 (b1 : Int) = b1 := by unfold wrap64; omega
    have g0 : (0 : Int) < n := by omega
    have g1 : (1 : Int) < n := by omega
    have g2 : 0 < n := by omega
    have g3 : 1 < n := by omega
    have g4 : (2 : Int) ≤ n := by omega
    clear hr
    have SD : ∀ (W : World) (q : Nat) (a : Addr) (v : Value), (W.drewN q).setCell a v = (W.setCell a v).drewN q := fun _ _ _ _ => rfl
    go_enter Tryz.func87, Tryz.ntmps87
    go_wp2_with fail
    go_region
    clear w0 w1
    go_wp2_with fail
    go_loopw [0, 26] (fun q i wr => ∃ (k : Nat) (A' : Option Addr) (n' c' : Nat) (r : List UInt8) (acc : List Nat) (x y z qd : Nat), i = .int .i64 (k : Int) ∧ q = .slice A' n' c' ∧ k ≤ 3 ∧ Rd w B 1 A' n' (bvs r) ∧ n' ≤ c' ∧ n' ≤ n ∧
        wr = ((w.alloc (.cells #[.int .i64 (b0 : Int), .int .i64 (b1 : Int), .int .u64 0, .int .u64 0, .int .i64 0] 37)).alloc (.cells #[.int .u64 (x : Int), .int .u64 (y : Int), .int .u64 (z : Int)] 134)).drewN qd ∧ Hid (takesL (3 - k) acc r = takesL 3 [] l2) ∧ Hid (acc.length = k ∧ acc.getD 0 0 = x ∧ acc.getD 1 0 = y ∧ acc.getD 2 0 = z) ∧ (x : Int) ≤ 18446744073709551615 ∧ (y : Int) ≤ 18446744073709551615 ∧ (z : Int) ≤ 18446744073709551615) (fun _ i _ => 3 - (intOf i).toNat)
    case atStart => exact ⟨0, _, _, _, l2, [], 0, 0, 0, 1, rfl, rfl, by omega, hd, by omega, by omega, rfl, rfl, ⟨rfl, rfl, rfl, rfl⟩, by omega, by omega, by omega⟩
    case round =>
      obtain ⟨k, A', n', c', r, acc, x, y, z, qd, rfl, rfl, hk, hrr, hnc, hnn, rfl, HT, HA, hx, hy, hz⟩ := hrel
      clear hd
      have hup : Up w (((w.alloc (.cells #[.int .i64 (b0 : Int), .int .i64 (b1 : Int), .int .u64 0, .int .u64 0, .int .i64 0] 37)).alloc (.cells #[.int .u64 (x : Int), .int .u64 (y : Int), .int .u64 (z : Int)] 134)).drewN qd) := (((Up.refl w).alloc _).alloc _).drewN _
      by_cases hlt : k < 3
      · go_wp2_with fail
        refine (take_any A' n' c' r _ ((hrr.mono hB).up hup) (by omega)).mono ?_
        rintro e w1 ⟨rfl, rfl⟩
        by_cases he : (takeL r).2.2 = 0
        · have hok := takeL_ok he
          have hst : takesL (3 - k) acc r = takesL (3 - (k + 1)) (acc ++ [(takeL r).1]) (r.drop (takeL r).2.1) := by
            rw [show 3 - k = (3 - (k + 1)) + 1 by omega]
            conv => lhs; unfold takesL
            rw [if_pos he]
          have hrl := hrr.blen
          have hd2 := hrr.bfrom (k := (takeL r).2.1) (cap := c') (by omega) hnc
          rw [he]
          have HST := Lib.hid (HT.out.symm.trans hst)
          clear hst he
          generalize (takeL r).1 = tn at *
          generalize (takeL r).2.1 = ts at *
          generalize r.drop ts = r2 at *
          obtain ⟨h1, h2', h3, h4⟩ := hok
          have t1 : (0 : Int) ≤ ts := by omega
          have t2 : (ts : Int) ≤ n' := by omega
          have t3 : (tn : Int) ≤ 18446744073709551615 := by omega
          clear h1 h2' h3 h4 hrl HT
          have hk3 : k = 0 ∨ k = 1 ∨ k = 2 := by omega
          rcases hk3 with rfl | rfl | rfl
          · go_wp2_with fail
            go_region
            go_wp2_with fail
            go_roundw
            case rel =>
              refine ⟨1, _, _, _, r2, acc ++ [tn], tn, y, z, _, rfl, rfl, by omega, hd2, by omega, by omega, rfl, HST.out.symm, ?_, by omega, by omega, by omega⟩
              obtain ⟨q1, q2, q3, q4⟩ := HA.out
              match acc, q1 with
              | [], _ => exact ⟨by simp, by first | exact q2 | simp, by first | exact q3 | simp, by first | exact q4 | simp⟩
            case measure => simp [intOf]
          · go_wp2_with fail
            go_region
            go_wp2_with fail
            go_roundw
            case rel =>
              refine ⟨2, _, _, _, r2, acc ++ [tn], x, tn, z, _, rfl, rfl, by omega, hd2, by omega, by omega, rfl, HST.out.symm, ?_, by omega, by omega, by omega⟩
              obtain ⟨q1, q2, q3, q4⟩ := HA.out
              match acc, q1 with
              | [a0], _ => exact ⟨by simp, by first | exact q2 | simp, by first | exact q3 | simp, by first | exact q4 | simp⟩
            case measure => simp [intOf]
          · go_wp2_with fail
            go_region
            go_wp2_with fail
            go_roundw
            case rel =>
              refine ⟨3, _, _, _, r2, acc ++ [tn], x, y, tn, _, rfl, rfl, by omega, hd2, by omega, by omega, rfl, HST.out.symm, ?_, by omega, by omega, by omega⟩
              obtain ⟨q1, q2, q3, q4⟩ := HA.out
              match acc, q1 with
              | [a0, a1], _ => exact ⟨by simp, by first | exact q2 | simp, by first | exact q3 | simp, by first | exact q4 | simp⟩
            case measure => simp [intOf]
        · have hbad := HT.out
          have hst : takesL (3 - k) acc r = ((takeL r).2.2, [], []) := by
            rw [show 3 - k = (3 - (k + 1)) + 1 by omega]
            unfold takesL
            rw [if_neg he]
          rw [hst] at hbad
          have hr1 : oneL l = ((takeL r).2.2, noIt, []) := by
            rw [HV.out, ← hbad]
            exact if_neg he
          have HR := Lib.hid hr1
          generalize (takeL r).2.2 = te at *
          have h0 : ¬ (te : Int) = 0 := by omega
          clear hr1 hst hbad HT he
          go_wp2_with fail
          refine bodyPost_ret (v := .tuple #[.agg #[.int .i64 0, .int .i64 0, .int .u64 0, .int .u64 0, .int .i64 0], .slice none 0 0, .int .i64 (te : Int)]) (by simp [results, Tryz.results87, go_sem]) rfl ?_
          rw [HR.out, noIt_c]
          exact ⟨none, 0, 0, rfl, Rd.empty, by omega, by omega, (((Up.refl w).alloc _).alloc _).drewN _⟩
      · have h3 : k = 3 := by omega
        subst h3
        have hT := HT.out
        have hok : (takesL 3 [] l2) = (0, acc, r) := by rw [← hT]; rfl
        obtain ⟨q1, q2, q3, q4⟩ := HA.out
        have hr1 : oneL l = (0, mkIt b0 b1 x y z, r) := by
          rw [HV.out, hok, if_pos rfl, q2, q3, q4]
        have HR := Lib.hid hr1
        clear hr1 hok hT q1 q2 q3 q4 HT HA
        go_wp2_with fail
        go_region_with (go_at_call 99; refine (unsign_any z _ (by omega)).mono ?_; rintro e w1 ⟨rfl, rfl⟩)
        all_goals
          go_wp2_with fail
          refine bodyPost_ret (v := .tuple #[.agg #[.int .i64 (b0 : Int), .int .i64 (b1 : Int), .int .u64 (x : Int), .int .u64 (y : Int), .int .i64 (unsignZ z)], .slice A' n' c', .int .i64 0]) (by simp [results, Tryz.results87, go_sem]) rfl ?_
          rw [HR.out, mkIt_c b0 b1 x y z hb0 hb1 (by omega) (by omega) (by omega)]
          exact ⟨A', n', c', rfl, hrr.below (Below.mono ((((Up.refl w).alloc _).alloc _).drewN _) hB), hnc, hnn, (((Up.refl w).alloc _).alloc _).drewN _⟩
end Go.Proofs.YtfmjgkfblejknaaGreat
