/-
  Words for memory that the walks share: a slice that reads as a list of values, worlds that only grow, bytes and numbers as values. No program is named here.
-/
import Derived.Test.YtnbdijifhimogaaRows
import Derived.WalkKit
import Derived.WalkSpells
import Derived.WalkLawsBesides
import Derived.Lib.Hide
import Derived.Deep.Draws
import Derived.Deep.AppendLies
import Derived.Maps.AppendAt
import Derived.RegionTactic
import Derived.Laws.MakeOwn
namespace Go.Proofs.Ytnbdijifhimogaa
open Go.RowKit
set_option linter.unusedVariables false

/-! ### Worlds that only grow -/

/-- Nothing that is there in w has turned in w'. -/
abbrev Up (w w' : World) : Prop := Below w.heap.size w w'
theorem Up.refl (w : World) : Up w w := Below.refl _ _
theorem Up.trans {a b c : World} (h : Up a b) (k : Up b c) : Up a c := Below.trans h (k.mono h.size)
theorem Up.drew {a w : World} (h : Up a w) : Up a w.drew := Below.drew h
theorem Up.drewN {a w : World} (h : Up a w) (n : Nat) : Up a (w.drewN n) := ⟨h.os, h.tape, h.output, h.size, h.block⟩
theorem Up.alloc {a w : World} (h : Up a w) (o : Obj) : Up a (w.alloc o) := Below.alloc h h.size o
theorem Up.set_ {a w : World} (h : Up a w) {p : Addr} (hp : a.heap.size ≤ p.block) (u : Value) : Up a (w.setCell p u) := Below.setCell h hp u
theorem Up.grown {a w w' : World} {row : Option Nat} (h : Up a w) (hg : w.grownBy w' row) (hr : ∀ k, row = some k → a.heap.size ≤ k) : Up a w' := Below.grown h hg h.size hr

/-! ### A slice that reads as a list of cells -/

/-- The slice with address A and n elements of sz cells each holds the cells xs, in a block below B. -/
def Rd (w : World) (B sz : Nat) (A : Option Addr) (n : Nat) (xs : List Value) : Prop :=
  xs.length = n * sz ∧ (0 < n → ∃ b o, A = some ⟨b, o, none⟩ ∧ b < B ∧ ∀ j u, xs[j]? = some u → w.cell? ⟨b, o + j, none⟩ = some u)

section
variable {w w' : World} {B B' sz n : Nat} {A : Option Addr} {xs : List Value}
theorem Rd.empty : Rd w B sz A 0 [] := ⟨by simp, fun h => absurd h (by omega)⟩
theorem Rd.len (h : Rd w B sz A n xs) : xs.length = n * sz := h.1
theorem Rd.keep (h : Rd w B sz A n xs) (hk : ∀ p : Addr, p.block < B → w'.cell? p = w.cell? p) : Rd w' B sz A n xs :=
  ⟨h.1, fun hn => by
    obtain ⟨b, o, e, hb, hc⟩ := h.2 hn
    exact ⟨b, o, e, hb, fun j u hu => (hk _ hb).trans (hc j u hu)⟩⟩
theorem Rd.mono (h : Rd w B sz A n xs) (hB : B ≤ B') : Rd w B' sz A n xs :=
  ⟨h.1, fun hn => by
    obtain ⟨b, o, e, hb, hc⟩ := h.2 hn
    exact ⟨b, o, e, by omega, hc⟩⟩
theorem Rd.below (h : Rd w B sz A n xs) (hb : Below B w w') : Rd w' B sz A n xs := h.keep fun _ hp => hb.cell hp
theorem Rd.stay (h : Rd w B sz A n xs) (hB : B ≤ w.heap.size) (hb : Up w w') : Rd w' B sz A n xs := h.below (hb.mono hB)
theorem Rd.up (h : Rd w w.heap.size sz A n xs) (hb : Up w w') : Rd w' w'.heap.size sz A n xs := (h.below hb).mono hb.size
theorem Rd.drew (h : Rd w B sz A n xs) : Rd w.drew B sz A n xs := h
theorem Rd.drewN (h : Rd w B sz A n xs) (k : Nat) : Rd (w.drewN k) B sz A n xs := h
theorem Rd.alloc (h : Rd w B sz A n xs) (hB : B ≤ w.heap.size) (o : Obj) : Rd (w.alloc o) B sz A n xs := h.keep fun p hp => World.cell?_alloc_lt w o p (by omega)
theorem Rd.set_ (h : Rd w B sz A n xs) {p : Addr} (hB : B ≤ p.block) (u : Value) : Rd (w.setCell p u) B sz A n xs :=
  h.keep fun q hq => World.cell?_setCell_other w p q u (fun e => by subst e; omega)
theorem Rd.grown (h : Rd w B sz A n xs) {row : Option Nat} (hg : w.grownBy w' row) (hB : B ≤ w.heap.size) (hr : ∀ g, row = some g → B ≤ g) : Rd w' B sz A n xs :=
  h.keep fun p hp => World.cell?_of_block (hg.block p.block (by omega) (fun e => by have := hr _ e.symm; omega))
/-- behind an append: a block that is not the one that was written -/
theorem Rd.far {g o : Nat} (h : Rd w B sz (some ⟨g, o, none⟩) n xs) (hn : 0 < n) {row : Option Nat} (hg : w.grownBy w' row) (hlt : g < w.heap.size) (hne : some g ≠ row) : Rd w' B sz (some ⟨g, o, none⟩) n xs :=
  ⟨h.1, fun _ => by
    obtain ⟨b, o', e, hb, hc⟩ := h.2 hn
    injection e with e
    injection e with e1 e2
    subst e1; subst e2
    exact ⟨g, o, rfl, hb, fun j u hu => (World.cell?_of_block (hg.block g hlt hne)).trans (hc j u hu)⟩⟩
/-- s[k:] -/
theorem Rd.from_ (h : Rd w B sz A n xs) {k cap : Nat} (hk : k ≤ n) (hc : n ≤ cap) : Rd w B sz (if cap = k then A else A.map (·.add (k * sz))) (n - k) (xs.drop (k * sz)) := by
  refine ⟨by rw [List.length_drop, h.1, Nat.sub_mul], fun hn => ?_⟩
  obtain ⟨b, o, rfl, hb, hcell⟩ := h.2 (by omega)
  rw [if_neg (by omega)]
  refine ⟨b, o + k * sz, ?_, hb, fun j u hu => ?_⟩
  · simp only [Option.map_some, Addr.add]
    split
    · rename_i h0; simp [h0]
    · rfl
  · rw [Nat.add_assoc]
    exact hcell _ u (by rw [← hu, List.getElem?_drop])
/-- s[:k] -/
theorem Rd.to_ (h : Rd w B sz A n xs) {k : Nat} (hk : k ≤ n) : Rd w B sz A k (xs.take (k * sz)) := by
  refine ⟨by rw [List.length_take, h.1]; exact Nat.min_eq_left (Nat.mul_le_mul_right _ hk), fun hn => ?_⟩
  obtain ⟨b, o, rfl, hb, hcell⟩ := h.2 (by omega)
  refine ⟨b, o, rfl, hb, fun j u hu => hcell j u ?_⟩
  rw [List.getElem?_take] at hu
  split at hu
  · exact hu
  · cases hu
theorem Rd.own {base : Nat} {e : TypeId} {c : Nat} (h : w.ownsRow base e sz (.slice A n c) n xs) : Rd w w.heap.size sz A n xs := by
  refine ⟨h.1, fun hn => ?_⟩
  rcases h.2 with ⟨hv, h0⟩ | ⟨g, cap, cur, hv, hg, hh, hnc, hcm, hcs, ht⟩
  · omega
  · have hA : A = some ⟨g, 0, none⟩ := by injection hv
    subst hA
    refine ⟨g, 0, rfl, (Array.getElem?_eq_some_iff.1 hh).1, fun j u hu => ?_⟩
    have := h.cells (g := g) rfl j u hu
    have e : (⟨g, 0, none⟩ : Addr).add j = ⟨g, 0 + j, none⟩ := by unfold Addr.add; split <;> simp_all
    rwa [e] at this
end

theorem own_form {w : World} {base : Nat} {e : TypeId} {sz n : Nat} {v : Value} {xs : List Value} (h : w.ownsRow base e sz v n xs) : ∃ A c, v = .slice A n c := by
  rcases h.2 with ⟨rfl, rfl⟩ | ⟨g, cap, cur, rfl, _⟩
  · exact ⟨none, 0, rfl⟩
  · exact ⟨_, _, rfl⟩
theorem own_cap {w : World} {base : Nat} {e : TypeId} {sz n c : Nat} {A : Option Addr} {xs : List Value} (h : w.ownsRow base e sz (.slice A n c) n xs) : n ≤ c := by
  rcases h.2 with ⟨hv, rfl⟩ | ⟨g, cap, cur, hv, _, _, hn, _⟩
  · exact Nat.zero_le _
  · injection hv with _ _ hc; omega
theorem own_some {w : World} {base : Nat} {e : TypeId} {sz n c : Nat} {A : Option Addr} {xs : List Value} (h : w.ownsRow base e sz (.slice A n c) n xs) (hn : 0 < n) : ∃ g, A = some ⟨g, 0, none⟩ ∧ base ≤ g ∧ g < w.heap.size := by
  rcases h.2 with ⟨hv, rfl⟩ | ⟨g, cap, cur, hv, hb, hg, _⟩
  · omega
  · injection hv with hA _ _
    exact ⟨g, hA, hb, (Array.getElem?_eq_some_iff.1 hg).1⟩
theorem own_up {w w' : World} {base : Nat} {e : TypeId} {sz n : Nat} {v : Value} {xs : List Value} (h : w.ownsRow base e sz v n xs) (hu : Up w w') : w'.ownsRow base e sz v n xs := by
  refine ⟨h.1, ?_⟩
  rcases h.2 with h2 | ⟨g, cap, cur, hv, hg, hh, r⟩
  · exact .inl h2
  · exact .inr ⟨g, cap, cur, hv, hg, (hu.block g (Array.getElem?_eq_some_iff.1 hh).1).trans hh, r⟩
theorem own_base {w : World} {base base' : Nat} {e : TypeId} {sz n : Nat} {v : Value} {xs : List Value} (h : w.ownsRow base e sz v n xs) (hb : base' ≤ base) : w.ownsRow base' e sz v n xs := by
  refine ⟨h.1, ?_⟩
  rcases h.2 with h2 | ⟨g, cap, cur, hv, hg, r⟩
  · exact .inl h2
  · exact .inr ⟨g, cap, cur, hv, by omega, r⟩

/-! ### Bytes, numbers -/
def bv (b : UInt8) : Value := .int .u8 (b.toNat : Int)
def qv (n : UInt64) : Value := .int .u64 (n.toNat : Int)
def iv (n : Int64) : Value := .int .i64 n.toInt
def bvs (l : List UInt8) : List Value := l.map bv
def qvs (l : List UInt64) : List Value := l.map qv
theorem bvs_length (l : List UInt8) : (bvs l).length = l.length := by simp [bvs]
theorem qvs_length (l : List UInt64) : (qvs l).length = l.length := by simp [qvs]
theorem bvs_append (a b : List UInt8) : bvs (a ++ b) = bvs a ++ bvs b := by simp [bvs]
theorem qvs_append (a b : List UInt64) : qvs (a ++ b) = qvs a ++ qvs b := by simp [qvs]
theorem bvs_one (l : List UInt8) : ∀ u ∈ bvs l, u.oneCell' = true := by
  intro u hu; simp only [bvs, List.mem_map] at hu; obtain ⟨b, _, rfl⟩ := hu; rfl
theorem qvs_one (l : List UInt64) : ∀ u ∈ qvs l, u.oneCell' = true := by
  intro u hu; simp only [qvs, List.mem_map] at hu; obtain ⟨b, _, rfl⟩ := hu; rfl
theorem bv_ofNat (n : Nat) : bv (UInt8.ofNat n) = .int .u8 ((n % 256 : Nat) : Int) := by simp [bv]
theorem qv_ofNat (n : Nat) : qv (UInt64.ofNat n) = .int .u64 ((n % 18446744073709551616 : Nat) : Int) := by simp [qv]

/-- a text as a value -/
def str (l : List UInt8) : Value := .string ⟨l.toArray⟩

/-! ### append onto a row of the call's own -/
/-- what is known of a slice type: its elements' cells and bytes -/
structure SlT (P : Program) (t e : TypeId) (sz bytes : Nat) : Prop where
  ut : P.underlying t = some (.slice e)
  inf : ∃ i z, P.info? e = some i ∧ i.zero = some z ∧ i.size = sz ∧ i.bytes = bytes ∧ z.cells.size = sz
  pos : 0 < sz

theorem SlT.mk' {P : Program} {t e : TypeId} {sz bytes : Nat} {z : Value} (h : P.underlying t = some (.slice e)) (hi : (P.info? e).map (fun i => (i.zero, i.size, i.bytes)) = some (some z, sz, bytes)) (hz : z.cells.size = sz) (hs : 0 < sz) : SlT P t e sz bytes := by
  obtain ⟨i, h1, h2, h3, h4⟩ := info_parts hi
  exact ⟨h, ⟨i, z, h1, h2, h3, h4, hz⟩, hs⟩

section
variable {P : Program} (w : World)
theorem run_append_rd {t e : TypeId} {sz bytes : Nat} (hT : SlT P t e sz bytes) (ty : TypeId) {base n B m c : Nat} {v : Value} {xs news : List Value} {A : Option Addr}
    (hown : w.ownsRow base e sz v n xs) (hr : Rd w B sz A m news) (h1 : ∀ u ∈ news, u.oneCell' = true)
    (hb : n + m ≤ 4611686018427387903) (hbytes : (n + m) * bytes ≤ 140737488355328) (hbase : base ≤ w.heap.size) :
    ∃ v' w', (Builtin.append_ #[t, t] ty #[v, .slice A m c]).run P w = .ok v' w' ∧ w'.ownsRow base e sz v' (n + m) (xs ++ news) ∧ w.grownBy w' v.ownBlock ∧
      (v'.ownBlock = v.ownBlock ∨ v'.ownBlock = some w.heap.size) := by
  obtain ⟨ht, ⟨i, z, hi, hz, hsize, hby, hzs⟩, hsz⟩ := hT
  have h63 : n + m ≤ maxLen := by simp only [maxLen]; omega
  rcases A with _ | ad
  · have hm : m = 0 := by
      rcases Nat.eq_zero_or_pos m with h0 | h0
      · exact h0
      · obtain ⟨b, o, h, _⟩ := hr.2 h0
        cases h
    subst hm
    have hn : news = [] := List.eq_nil_of_length_eq_zero (by simpa using hr.1)
    subst hn
    refine ⟨v, w, ?_, by simpa using hown, ⟨rfl, rfl, rfl, Nat.le_refl _, fun _ _ _ => rfl⟩, .inl rfl⟩
    rcases hown.2 with ⟨rfl, rfl⟩ | ⟨g, cap, cur, rfl, _, _, hnc, _⟩
    · simp [Builtin.append_, run_underlying ht, sizeOf, typeInfo, hi, Builtin.lenOf, Builtin.firstCells]
    · simp [Builtin.append_, run_underlying ht, sizeOf, typeInfo, hi, Builtin.lenOf, Builtin.firstCells, hnc, storeCells]
  · have hcells : ∀ j u, news[j]? = some u → w.cell? (ad.add j) = some u := by
      intro j u hu
      rcases Nat.eq_zero_or_pos m with h0 | h0
      · subst h0
        have hn : news = [] := List.eq_nil_of_length_eq_zero (by simpa using hr.1)
        subst hn
        simp at hu
      · obtain ⟨b, o, h, _, hc⟩ := hr.2 h0
        injection h with h
        subst h
        have e : (⟨b, o, none⟩ : Addr).add j = ⟨b, o + j, none⟩ := by unfold Addr.add; split <;> simp_all
        rw [e]
        exact hc j u hu
    obtain ⟨v', w', hrun, h2, h3, _, h5⟩ := run_append_own_at (P := P) w base t ty e i z sz bytes ht hi hz hsize hby hzs hsz v n xs hown ad m c news hr.1 hcells h1 h63 hbytes hbase
    exact ⟨v', w', hrun, h2, h3, h5⟩

theorem wp_append_rd {o : Oper} {a : Act} {K : Act → World → Prop} {Q : Exit → Act → World → Prop} (s x : Operand) {t e : TypeId} {sz bytes : Nat} (hT : SlT P t e sz bytes)
    (ho : o.op = .call { callee := .builtin .append, args := #[s, x], argTypes := #[t, t] })
    {base n B m c : Nat} {v : Value} {xs news : List Value} {A : Option Addr} (hs : a.eval s = v) (hx : a.eval x = .slice A m c)
    (hown : w.ownsRow base e sz v n xs) (hr : Rd w B sz A m news) (h1 : ∀ u ∈ news, u.oneCell' = true)
    (hb : n + m ≤ 4611686018427387903) (hbytes : (n + m) * bytes ≤ 140737488355328) (hbase : base ≤ w.heap.size)
    (h : ∀ v' w', w'.ownsRow base e sz v' (n + m) (xs ++ news) → w.grownBy w' v.ownBlock → (v'.ownBlock = v.ownBlock ∨ v'.ownBlock = some w.heap.size) → K (a.put o.dst v') w') : o.wp P a w K Q := by
  obtain ⟨v', w', hrun, h2, h3, h4⟩ := run_append_rd (P := P) w hT o.type (c := c) hown hr h1 hb hbytes hbase
  unfold Oper.wp execOp
  simp only [ho, resolve, invoke, builtin, Sem.run_bind, Sem.run_pure, Result.andThen_ok, List.map_toArray, List.map_cons, List.map_nil, hs, hx, hrun]
  exact h v' w' h2 h3 h4

/-- 'append(s, x...)', s a row of the call's own. The order of what is asked: hT, the bounds of what is owned and what is read. -/
theorem wpList_append_rd {ops : Array Oper} {rest : List Oper} {o : Oper} {a : Act} {Q : Exit → Act → World → Prop} {s x : Operand} {t e : TypeId} {sz bytes : Nat} (hT : SlT P t e sz bytes)
    {base n B m c : Nat} {v : Value} {xs news : List Value} {A : Option Addr}
    (hown : w.ownsRow base e sz v n xs) (hr : Rd w B sz A m news) (h1 : ∀ u ∈ news, u.oneCell' = true)
    (hb : n + m ≤ 4611686018427387903) (hbytes : (n + m) * bytes ≤ 140737488355328) (hbase : base ≤ w.heap.size)
    (hgd : o.guard = none)
    (ho : o.op = .call { callee := .builtin .append, args := #[s, x], argTypes := #[t, t] })
    (hs : a.eval s = v) (hx : a.eval x = .slice A m c)
    (h : ∀ v' w', w'.ownsRow base e sz v' (n + m) (xs ++ news) → w.grownBy w' v.ownBlock → (v'.ownBlock = v.ownBlock ∨ v'.ownBlock = some w.heap.size) → wpList P ops Q rest (a.put o.dst v') w') : wpList P ops Q (o :: rest) a w :=
  wpList_plain hgd fun _ hK => wp_append_rd w s x hT ho hs hx hown hr h1 hb hbytes hbase fun v' w' h2 h3 h4 => hK _ _ (h v' w' h2 h3 h4)
end

/-- where s[k:] begins: kept shut in the walk -/
def cutA (A : Option Addr) (c k sz : Nat) : Option Addr := if c = k then A else A.map (·.add (k * sz))
theorem Rd.from_ownsRow {w : World} {base : Nat} {e : TypeId} {sz n : Nat} {v : Value} {xs : List Value} (h : w.ownsRow base e sz v n xs) : ∃ A c, v = .slice A n c ∧ Rd w w.heap.size sz A n xs := by
  rcases h.2 with ⟨rfl, rfl⟩ | ⟨g, cap, cur, rfl, _⟩
  · exact ⟨none, 0, rfl, Rd.own h⟩
  · exact ⟨_, _, rfl, Rd.own h⟩

theorem below_sets {B : Nat} {a : World} (b : Nat) (hb : B ≤ b) : ∀ (vs : List Value) (o : Nat) (w : World), Below B a w → Below B a (w.setCells b o vs)
  | [], _, _, h => h
  | v :: vs, o, w, h => below_sets b hb vs (o + 1) _ (Below.setCell (p := ⟨b, o, none⟩) h hb v)

/-- 'append(s[k:], x...)', s a row of the call's own: what it comes to reads so; of what was there only that row's spare places may have turned. -/
theorem wpList_append_cut {P : Program} (w : World) {ops : Array Oper} {rest : List Oper} {o : Oper} {a : Act} {Q : Exit → Act → World → Prop} {s x : Operand} {t e : TypeId} {sz bytes : Nat} (hT : SlT P t e sz bytes)
    {base n k B m c c2 : Nat} {xs news : List Value} {A A2 : Option Addr} (hown : w.ownsRow base e sz (.slice A n c) n xs) (hk : k ≤ n) (hr : Rd w B sz A2 m news) (hm : 0 < m) (h1 : ∀ u ∈ news, u.oneCell' = true)
    (hb : n + m ≤ 4611686018427387903) (hbytes : (n + m) * bytes ≤ 140737488355328) (hbase : base ≤ w.heap.size)
    (hgd : o.guard = none) (ho : o.op = .call { callee := .builtin .append, args := #[s, x], argTypes := #[t, t] })
    (hs : a.eval s = .slice (cutA A c k sz) (n - k) (c - k)) (hx : a.eval x = .slice A2 m c2)
    (h : ∀ A' c' w', Rd w' w'.heap.size sz A' (n - k + m) (xs.drop (k * sz) ++ news) → n - k + m ≤ c' → Below base w w' → wpList P ops Q rest (a.put o.dst (.slice A' (n - k + m) c')) w') : wpList P ops Q (o :: rest) a w := by
  obtain ⟨b2, o2, rfl, hb2, hc2⟩ := hr.2 hm
  have hbb : (n - k + m) * bytes ≤ 140737488355328 := Nat.le_trans (Nat.mul_le_mul_right _ (by omega)) hbytes
  have hnews : ∀ j u, news[j]? = some u → w.cell? ((⟨b2, o2, none⟩ : Addr).add j) = some u := fun j u hu => by
    have e : (⟨b2, o2, none⟩ : Addr).add j = ⟨b2, o2 + j, none⟩ := by unfold Addr.add; split <;> simp_all
    rw [e]; exact hc2 j u hu
  rcases hown.2 with ⟨hv, rfl⟩ | ⟨g, cap, cur, hv, hbg, hh, hnc, hcm, hcs, htake⟩
  · injection hv with hA _ hc
    subst hA; subst hc
    obtain rfl : k = 0 := by omega
    have hxs : xs = [] := List.eq_nil_of_length_eq_zero (by simpa using hown.1)
    subst hxs
    refine wpList_append_rd w hT (World.ownsRow_nil w w.heap.size e sz) hr h1 (by omega) (by simpa using hbb) (Nat.le_refl _) hgd ho (by rw [hs]; simp [cutA]) hx fun v' w' ho' hg' hat' => ?_
    obtain ⟨A', c', rfl, hrd⟩ := Rd.from_ownsRow ho'
    exact h A' c' w' (by simpa using hrd) (by have := own_cap ho'; omega) ((Below.refl base w).grown hg' hbase (by simp [Value.ownBlock]))
  · injection hv with hA _ hc
    subst hA; subst hc
    obtain ⟨ht, ⟨i, z, hi, hz, hsize, hby, hzs⟩, hsz⟩ := hT
    have hlen := hown.1
    have holds : ∀ off, off = (if c = k then 0 else k * sz) → ∀ j u, (xs.drop (k * sz))[j]? = some u → w.cell? ⟨g, off + j, none⟩ = some u := by
      intro off hoff j u hu
      rw [List.getElem?_drop] at hu
      have hjl := (List.getElem?_eq_some_iff.1 hu).1
      by_cases hck : c = k
      · have : k = n := by omega
        subst this; rw [hlen] at hjl; omega
      · rw [hoff, if_neg hck, hown.cellAt _ (by rw [← hlen]; exact hjl)]; exact hu
    have hcut : cutA (some ⟨g, 0, none⟩) c k sz = some ⟨g, if c = k then 0 else k * sz, none⟩ := by
      unfold cutA
      by_cases hck : c = k
      · simp [hck]
      · rw [if_neg hck, if_neg hck]
        simp only [Option.map_some, Addr.add]
        split
        · rename_i h0; simp [h0]
        · simp
    refine wpList_append_arg w hgd s x t ho e i z sz bytes ht hi hz hsize hby hzs hsz g (if c = k then 0 else k * sz) (n - k) (c - k) (xs.drop (k * sz)) (by rw [hs, hcut]) (by rw [List.length_drop, hlen, Nat.sub_mul]) (holds _ rfl)
      ⟨b2, o2, none⟩ m c2 news hx hr.1 hnews h1 ?_ (by simp only [maxLen]; omega) hbb ?_ ?_
    · intro hroom j hj
      have hck : ¬ c = k := by omega
      rw [if_neg hck]
      have e1 : k * sz + (n - k) * sz = n * sz := by rw [← Nat.add_mul]; congr 1; omega
      rw [e1]
      have hfit : n * sz + j < cur.size := by
        rw [hcs]
        have : (n + m) * sz ≤ c * sz := Nat.mul_le_mul_right _ (by omega)
        rw [Nat.add_mul] at this
        rw [hr.1] at hj; omega
      exact ⟨by rw [cell_of_row w g _ cur e (0, 0) hh]; simp [hfit], frozen_of_row w g _ cur e hh⟩
    · intro hroom
      have hck : ¬ c = k := by omega
      rw [if_neg hck]
      have e1 : k * sz + (n - k) * sz = n * sz := by rw [← Nat.add_mul]; congr 1; omega
      rw [e1]
      refine h _ _ _ ?_ (by omega) ?_
      · have hfit : n * sz + news.length ≤ cur.size := by
          rw [hcs, hr.1, ← Nat.add_mul]; exact Nat.mul_le_mul_right _ (by omega)
        refine ⟨by rw [List.length_append, List.length_drop, hlen, hr.1, Nat.add_mul, Nat.sub_mul], fun _ => ⟨g, k * sz, rfl, ?_, fun j u hu => ?_⟩⟩
        · exact Nat.lt_of_lt_of_le (Array.getElem?_eq_some_iff.1 hh).1 (below_sets g hbg news (n * sz) w (Below.refl base w)).size
        · rw [List.getElem?_append] at hu
          have hl : (xs.drop (k * sz)).length = n * sz - k * sz := by rw [List.length_drop, hlen]
          have hks : k * sz ≤ n * sz := Nat.mul_le_mul_right _ hk
          rw [hl] at hu
          by_cases hj : j < n * sz - k * sz
          · rw [if_pos hj, List.getElem?_drop] at hu
            rw [World.cell?_setCells_out g news (n * sz) w ⟨g, k * sz + j, none⟩ (fun _ _ => .inl (by simp only; omega))]
            rw [hown.cellAt _ (by omega)]; exact hu
          · rw [if_neg hj] at hu
            have e2 : k * sz + j = n * sz + (j - (n * sz - k * sz)) := by omega
            rw [e2]
            obtain ⟨hjn, hjv⟩ := List.getElem?_eq_some_iff.1 hu
            rw [World.cell?_setCells_in g news (n * sz) w (fun i hi => by rw [cell_of_row w g _ cur e (0, 0) hh]; simp; omega) _ hjn, ← hjv]
      · exact below_sets g hbg news _ _ (Below.refl base w)
    · intro hgrow v' w' ho' hg'
      obtain ⟨A', c', rfl, hrd⟩ := Rd.from_ownsRow ho'
      exact h A' c' w' hrd (own_cap ho') ((Below.refl base w).grown hg' hbase (by simp))

/-! ### Bytes of the call's own; texts -/
theorem bytesT : SlT Try.prog 28 5 1 1 := SlT.mk' Try.underlying28 (z := .int .u8 0) (by kernel_rfl) rfl (by decide)

/-- the slice is a row of the call's own (blocks from base on) that holds these bytes -/
def OwnB (w : World) (base : Nat) (A : Option Addr) (n c : Nat) (l : List UInt8) : Prop := w.ownsRow base 5 1 (.slice A n c) n (bvs l)
section
variable {w w' : World} {base n c : Nat} {A : Option Addr} {l : List UInt8} {q : List UInt64}
theorem OwnB.rd (h : OwnB w base A n c l) : Rd w w.heap.size 1 A n (bvs l) := Rd.own h
theorem OwnB.len (h : OwnB w base A n c l) : n = l.length := by have := h.1; simp only [bvs_length] at this; omega
theorem OwnB.up (h : OwnB w base A n c l) (hu : Up w w') : OwnB w' base A n c l := own_up h hu
theorem OwnB.cap (h : OwnB w base A n c l) : n ≤ c := own_cap h
theorem Rd.blen (h : Rd w base 1 A n (bvs l)) : n = l.length := by have := h.1; simp only [bvs_length] at this; omega
theorem Rd.qlen (h : Rd w base 1 A n (qvs q)) : n = q.length := by have := h.1; simp only [qvs_length] at this; omega
theorem Rd.byte (h : Rd w base 1 A n (bvs l)) {k : Nat} (hk : k < n) :
    ∃ b o, A = some ⟨b, o, none⟩ ∧ b < base ∧ w.cell? ⟨b, o + k, none⟩ = some (.int .u8 ((l.getD k 0).toNat : Int)) := by
  obtain ⟨b, o, e, hb, hc⟩ := h.2 (by omega)
  have hl : k < l.length := by have := h.blen; omega
  exact ⟨b, o, e, hb, hc k _ (by simp [bvs, bv, hl, List.getD])⟩
theorem Rd.num (h : Rd w base 1 A n (qvs q)) {k : Nat} (hk : k < n) :
    ∃ b o, A = some ⟨b, o, none⟩ ∧ b < base ∧ w.cell? ⟨b, o + k, none⟩ = some (.int .u64 ((q.getD k 0).toNat : Int)) := by
  obtain ⟨b, o, e, hb, hc⟩ := h.2 (by omega)
  have hl : k < q.length := by have := h.qlen; omega
  exact ⟨b, o, e, hb, hc k _ (by simp [qvs, qv, hl, List.getD])⟩
/-- numbers without sign as cells -/
def nvs (l : List Nat) : List Value := l.map fun (n : Nat) => Value.int .u64 (n : Int)
theorem nvs_length (l : List Nat) : (nvs l).length = l.length := by simp [nvs]
theorem Rd.nat {q : List Nat} (h : Rd w base 1 A n (nvs q)) {k : Nat} (hk : k < n) :
    ∃ b o, A = some ⟨b, o, none⟩ ∧ b < base ∧ w.cell? ⟨b, o + k, none⟩ = some (.int .u64 ((q.getD k 0 : Nat) : Int)) := by
  obtain ⟨b, o, e, hb, hc⟩ := h.2 (by omega)
  have hl : k < q.length := by have := h.1; rw [nvs_length] at this; omega
  exact ⟨b, o, e, hb, hc k _ (by simp [nvs, hl, List.getD])⟩
/-- s[k:] of bytes -/
theorem Rd.bfrom (h : Rd w base 1 A n (bvs l)) {k cap : Nat} (hk : k ≤ n) (hc : n ≤ cap) : Rd w base 1 (cutA A cap k 1) (n - k) (bvs (l.drop k)) := by
  have := h.from_ hk hc
  rw [Nat.mul_one] at this
  simpa [bvs, List.map_drop, cutA] using this
theorem Rd.bto (h : Rd w base 1 A n (bvs l)) {k : Nat} (hk : k ≤ n) : Rd w base 1 A k (bvs (l.take k)) := by
  have := h.to_ hk
  simpa [bvs, List.map_take] using this
end

theorem sizeOf_b (w : World) : (sizeOf 5).run Try.prog w = .ok 1 w := by
  obtain ⟨_, ⟨i, z, hi, _, hs, _⟩, _⟩ := bytesT
  simp [sizeOf, typeInfo, hi, hs]
theorem elem_b : Try.prog.elem 28 = 5 := by kernel_rfl
/-- s[l:] and s[l:h] of bytes, the beginning kept shut -/
theorem cut_from_b (w : World) (A : Option Addr) (n c : Nat) (kl : IntKind) (l : Int) (h0 : 0 ≤ l) (h1 : l ≤ n) :
    (Instr.slice 28 (.slice A n c) (some (.int kl l)) none none).run Try.prog w = .ok (.slice (cutA A c l.toNat 1) (n - l.toNat) (c - l.toNat)) w := by
  rw [run_slice_l w 28 A n c (by rw [elem_b]; exact Try.underlying28) kl l h0 h1, elem_b, sizeOf_b]
  simp [sliced, cutA]
theorem cut_lh_b (w : World) (A : Option Addr) (n c : Nat) (kl kh : IntKind) (l h : Int) (h0 : 0 ≤ l) (h1 : l ≤ h) (h2 : h ≤ c) :
    (Instr.slice 28 (.slice A n c) (some (.int kl l)) (some (.int kh h)) none).run Try.prog w = .ok (.slice (cutA A c l.toNat 1) (h.toNat - l.toNat) (c - l.toNat)) w := by
  rw [run_slice_lh w 28 A n c (by rw [elem_b]; exact Try.underlying28) kl kh l h h0 h1 h2, elem_b, sizeOf_b]
  simp [sliced, cutA]

/-- make([]byte, n) -/
def zb (n : Nat) : Array Value := (bvs (List.replicate n 0)).toArray
theorem zb_own (w : World) {base n : Nat} (hb : base ≤ w.heap.size) (hm : n ≤ 9223372036854775807) : OwnB (w.alloc (.cells (zb n) 5)) base (some ⟨w.heap.size, 0, none⟩) n n (List.replicate n 0) := by
  refine ⟨by simp [bvs], .inr ⟨w.heap.size, n, zb n, rfl, hb, heap_alloc_new w _, Nat.le_refl _, by simpa only [maxLen] using hm, by simp [zb, bvs], ?_⟩⟩
  simp [zb, bvs]
set_option maxRecDepth 100000 in
theorem make_b (w : World) (kl kc : IntKind) (l : Int) (h0 : 0 ≤ l) (h1 : l ≤ 140737488355328) :
    (Instr.makeSlice 28 (.int kl l) (.int kc l)).run Try.prog w = .ok (.slice (some ⟨w.heap.size, 0, none⟩) l.toNat l.toNat) (w.alloc (.cells (zb l.toNat) 5)) := by
  obtain ⟨i, hi, hz, hs, hby⟩ := info_parts (P := Try.prog) (e := 5) (z := .int .u8 0) (size := 1) (bytes := 1) (by kernel_rfl)
  rw [run_make w _ _ i _ bytesT.ut hi hz kl kc l l h0 (Int.le_refl _) (by rw [hby]; omega) (by omega)]
  congr 3
  apply Array.toList_inj.1
  rw [hs, Nat.mul_one]
  show (madeCells #[Value.int .u8 0] l.toNat).toList = _
  rw [toList_madeCells_one]
  simp [zb, bvs, bv]
/-- string(b) -/
theorem run_str {w : World} {B n : Nat} {A : Option Addr} {l : List UInt8} (c : Nat) (h : Rd w B 1 A n (bvs l)) : (convert 28 9 (.slice A n c)).run Try.prog w = .ok (.string ⟨l.toArray⟩) w := by
  have hn := h.blen
  subst hn
  by_cases h0 : 0 < l.length
  · obtain ⟨b, o, rfl, _, hc⟩ := h.2 h0
    refine run_convert_bytes_back w _ _ _ _ c l Try.underlying28 Try.underlying5 Try.underlying9 (fun j hj => ?_)
    have e : (⟨b, o, none⟩ : Addr).add j = ⟨b, o + j, none⟩ := by unfold Addr.add; split <;> simp_all
    rw [e]
    exact hc j _ (by simp [bvs, bv, hj])
  · have hl : l = [] := List.eq_nil_of_length_eq_zero (by omega)
    subst hl
    cases A with
    | none => exact run_convert_bytes_nil w _ _ Try.underlying28 Try.underlying5 0 c _ Try.underlying9
    | some a => exact run_convert_bytes_back w _ _ _ a c [] Try.underlying28 Try.underlying5 Try.underlying9 (fun j hj => by simp at hj)

/-- one new block, read from its head -/
theorem Rd.made (w : World) (cs : Array Value) (t : TypeId) {sz n : Nat} (hn : cs.size = n * sz) : Rd (w.alloc (.cells cs t)) (w.alloc (.cells cs t)).heap.size sz (some ⟨w.heap.size, 0, none⟩) n cs.toList := by
  refine ⟨by simpa using hn, fun _ => ⟨w.heap.size, 0, rfl, by simp, fun j v hj => ?_⟩⟩
  rw [World.cell?_alloc_at (w := w) cs t _ _ rfl]
  simpa using hj
/-- one value, boxed: 'append(s, u)' -/
theorem Rd.box (w : World) (u : Value) (t : TypeId) : Rd (w.alloc (.cells #[u] t)) (w.alloc (.cells #[u] t)).heap.size 1 (some ⟨w.heap.size, 0, none⟩) 1 [u] := Rd.made w #[u] t rfl
theorem Rd.boxb (w : World) {u : Value} (t : TypeId) {b : UInt8} (h : u = bv b) : Rd (w.alloc (.cells #[u] t)) (w.alloc (.cells #[u] t)).heap.size 1 (some ⟨w.heap.size, 0, none⟩) 1 (bvs [b]) := by subst h; exact Rd.box w _ t
theorem Rd.boxq (w : World) {u : Value} (t : TypeId) {b : UInt64} (h : u = qv b) : Rd (w.alloc (.cells #[u] t)) (w.alloc (.cells #[u] t)).heap.size 1 (some ⟨w.heap.size, 0, none⟩) 1 (qvs [b]) := by subst h; exact Rd.box w _ t
theorem Rd.boxb_at (w : World) {u : Value} (t : TypeId) {b : UInt8} {g : Nat} (hg : w.heap.size = g) (h : u = bv b) : Rd (w.alloc (.cells #[u] t)) (w.alloc (.cells #[u] t)).heap.size 1 (some ⟨g, 0, none⟩) 1 (bvs [b]) := by subst hg; exact Rd.boxb w t h
/-- a literal of bytes -/
theorem Rd.lit (w : World) (l : List UInt8) (cs : Array Value) (t : TypeId) (h : cs.toList = bvs l) : Rd (w.alloc (.cells cs t)) (w.alloc (.cells cs t)).heap.size 1 (some ⟨w.heap.size, 0, none⟩) l.length (bvs l) := by
  rw [← h]
  exact Rd.made w cs t (by have := congrArg List.length h; simpa [bvs] using this)
theorem Rd.lit_at (w : World) (l : List UInt8) (cs : Array Value) (t : TypeId) {g : Nat} (hg : w.heap.size = g) (h : cs.toList = bvs l) : Rd (w.alloc (.cells cs t)) (w.alloc (.cells cs t)).heap.size 1 (some ⟨g, 0, none⟩) l.length (bvs l) := by subst hg; exact Rd.lit w l cs t h

/-- a whole number's lowest byte -/
def byteOf (z : Int) : UInt8 := UInt8.ofNat (z % 256).toNat
theorem bv_byteOf (z : Int) : bv (byteOf z) = .int .u8 (z % 256) := by
  unfold byteOf; rw [bv_ofNat]; congr 1; omega
/-- a slice and what it holds -/
structure Pt where
  A : Option Addr
  n : Nat
  c : Nat
  l : List UInt8
def Pt.v (p : Pt) : Value := .slice p.A p.n p.c
end Go.Proofs.Ytnbdijifhimogaa
