/-
  Items as plain data, and as cells; an item or a slice of items that came in.
-/
import Derived.Test.YtnbdijifhimogaaOpen
import Derived.Deep.Slices
import Derived.Deep.Fields
namespace Go.Proofs.Ytnbdijifhimogaa
open Go.ChangeShapes Go.WideShapes Go.ChangeAt Go.RowKit Go.Deep
set_option linter.unusedVariables false

/-- a sample, or a delete of a series -/
structure It where
  s : Int64
  k : Int64
  t : UInt64
  v : UInt64
  x : Int64

def itc (i : It) : List Value := [.int .i64 i.s.toInt, .int .i64 i.k.toInt, .int .u64 (i.t.toNat : Int), .int .u64 (i.v.toNat : Int), .int .i64 i.x.toInt]
def itcs (l : List It) : List Value := l.flatMap itc
theorem itcs_length (l : List It) : (itcs l).length = l.length * 5 := by
  induction l with
  | nil => rfl
  | cons i l ih => simp only [itcs, List.flatMap_cons, List.length_append, List.length_cons] at *; rw [ih]; simp [itc]; omega
theorem itcs_append (a b : List It) : itcs (a ++ b) = itcs a ++ itcs b := by simp [itcs]
theorem itcs_one (l : List It) : ∀ u ∈ itcs l, u.oneCell' = true := by
  intro u hu
  simp only [itcs, List.mem_flatMap] at hu
  obtain ⟨i, _, h⟩ := hu
  simp only [itc, List.mem_cons, List.not_mem_nil, or_false] at h
  rcases h with rfl | rfl | rfl | rfl | rfl <;> rfl
/-- the cells of the item at place k -/
theorem itcs_at (l : List It) {k : Nat} (hk : k < l.length) {j : Nat} (hj : j < 5) : (itcs l)[k * 5 + j]? = (itc l[k])[j]? := by
  induction l generalizing k with
  | nil => simp at hk
  | cons i l ih =>
    cases k with
    | zero =>
      simp only [itcs, List.flatMap_cons, Nat.zero_mul, Nat.zero_add, List.getElem_cons_zero]
      rw [List.getElem?_append_left (by simpa [itc] using hj)]
    | succ k =>
      have hk' : k < l.length := by simpa using hk
      have := ih hk'
      simp only [itcs, List.flatMap_cons, List.getElem_cons_succ] at this ⊢
      rw [List.getElem?_append_right (by simp [itc]; omega), ← this]
      congr 1; simp [itc]; omega

/-- an item's five cells, one by one -/
theorem five_cells {w : World} {B g : Nat} {i : It} (h : Rd w B 5 (some ⟨g, 0, none⟩) 1 (itc i)) :
    w.cell? ⟨g, 0, none⟩ = some (.int .i64 i.s.toInt) ∧ w.cell? ⟨g, 1, none⟩ = some (.int .i64 i.k.toInt) ∧ w.cell? ⟨g, 2, none⟩ = some (.int .u64 (i.t.toNat : Int)) ∧ w.cell? ⟨g, 3, none⟩ = some (.int .u64 (i.v.toNat : Int)) ∧ w.cell? ⟨g, 4, none⟩ = some (.int .i64 i.x.toInt) := by
  obtain ⟨b, o, e, _, hc⟩ := h.2 (by omega)
  injection e with e
  injection e with e1 e2
  subst e1; subst e2
  exact ⟨by simpa using hc 0 _ rfl, by simpa using hc 1 _ rfl, by simpa using hc 2 _ rfl, by simpa using hc 3 _ rfl, by simpa using hc 4 _ rfl⟩
theorem Rd.ilen {w : World} {B n : Nat} {A : Option Addr} {l : List It} (h : Rd w B 5 A n (itcs l)) : n = l.length := by have := h.1; rw [itcs_length] at this; omega
/-- the cells of a slice's item k -/
theorem Rd.item_at {w : World} {B n : Nat} {A : Option Addr} {l : List It} (h : Rd w B 5 A n (itcs l)) {k : Nat} (hk : k < n) :
    ∃ b o i, A = some ⟨b, o, none⟩ ∧ b < B ∧ l[k]? = some i ∧ w.cell? ⟨b, o + k * 5, none⟩ = some (.int .i64 i.s.toInt) ∧ w.cell? ⟨b, o + k * 5 + 1, none⟩ = some (.int .i64 i.k.toInt) ∧ w.cell? ⟨b, o + k * 5 + 2, none⟩ = some (.int .u64 (i.t.toNat : Int)) ∧ w.cell? ⟨b, o + k * 5 + 3, none⟩ = some (.int .u64 (i.v.toNat : Int)) ∧ w.cell? ⟨b, o + k * 5 + 4, none⟩ = some (.int .i64 i.x.toInt) := by
  have hl := h.ilen
  obtain ⟨b, o, e, hb, hc⟩ := h.2 (by omega)
  have hkl : k < l.length := by omega
  have got : ∀ j u, j < 5 → (itc l[k])[j]? = some u → w.cell? ⟨b, o + k * 5 + j, none⟩ = some u := fun j u hj hu => by
    rw [Nat.add_assoc]
    exact hc _ _ ((itcs_at l hkl hj).trans hu)
  exact ⟨b, o, l[k], e, hb, List.getElem?_eq_getElem hkl, got 0 _ (by omega) rfl, got 1 _ (by omega) rfl, got 2 _ (by omega) rfl, got 3 _ (by omega) rfl, got 4 _ (by omega) rfl⟩
theorem Rd.item (w : World) (i : It) (t : TypeId) : Rd (w.alloc (.cells #[.int .i64 i.s.toInt, .int .i64 i.k.toInt, .int .u64 (i.t.toNat : Int), .int .u64 (i.v.toNat : Int), .int .i64 i.x.toInt] t)) (w.heap.size + 1) 5 (some ⟨w.heap.size, 0, none⟩) 1 (itc i) := by
  have := Rd.made (sz := 5) (n := 1) w #[.int .i64 i.s.toInt, .int .i64 i.k.toInt, .int .u64 (i.t.toNat : Int), .int .u64 (i.v.toNat : Int), .int .i64 i.x.toInt] t rfl
  rw [World.size_alloc] at this
  exact this
/-- a boxed item's cells, in whatever grows out of that world -/
theorem item_held (w : World) (i : It) {t : TypeId} {W : World} (hW : w.alloc (.cells #[.int .i64 i.s.toInt, .int .i64 i.k.toInt, .int .u64 (i.t.toNat : Int), .int .u64 (i.v.toNat : Int), .int .i64 i.x.toInt] t) = W) :
    ∀ w1, Up W w1 → w1.cell? ⟨w.heap.size, 0, none⟩ = some (.int .i64 i.s.toInt) ∧ w1.cell? ⟨w.heap.size, 1, none⟩ = some (.int .i64 i.k.toInt) ∧ w1.cell? ⟨w.heap.size, 2, none⟩ = some (.int .u64 (i.t.toNat : Int)) ∧ w1.cell? ⟨w.heap.size, 3, none⟩ = some (.int .u64 (i.v.toNat : Int)) ∧ w1.cell? ⟨w.heap.size, 4, none⟩ = some (.int .i64 i.x.toInt) := fun w1 hu1 => by
  have h5 := Rd.item w i t
  rw [hW] at h5
  exact five_cells ((h5.mono (B' := W.heap.size) (by rw [← hW]; simp)).stay (Nat.le_refl _) hu1)
/-- a literal of items -/
theorem Rd.ilit_at (w : World) (l : List It) (cs : Array Value) (t : TypeId) {g : Nat} (hg : w.heap.size = g) (h : cs.toList = itcs l) : Rd (w.alloc (.cells cs t)) (w.alloc (.cells cs t)).heap.size 5 (some ⟨g, 0, none⟩) l.length (itcs l) := by
  subst hg
  rw [← h]
  exact Rd.made w cs t (by have := congrArg List.length h; rw [itcs_length] at this; simpa using this)
theorem i64_of {n : Int} (h : (Lit.int .i64 n).wf = true) : n = (Int64.ofInt n).toInt := by
  have := bd_i64 h
  rw [Int64.toInt_ofInt_of_le (by simpa using this.1) (by have := this.2; simp; omega)]
theorem u64_of {n : Int} (h : (Lit.int .u64 n).wf = true) : n = ((UInt64.ofNat n.toNat).toNat : Int) := by
  have := bd_u64 h
  simp; omega

section
variable {H : Type} {enc : TypeId × Value → H} {P : Program} {w : World} {base : Nat} {spare : Nat → Bool} {held : Bool}
theorem item_cells {t : TypeId} {f0 f1 f2 f3 f4 : Field} {fuel : Nat} {cs : List Value} {y : DataW H × List MemPlace} (hs : P.underlying t = some (.struct #[f0, f1, f2, f3, f4])) (hone : oneCellFields P #[f0, f1, f2, f3, f4] = true) (hC : P.cellsOf t = 5)
    (u0 : P.underlying f0.type = some (.int .i64)) (u1 : P.underlying f1.type = some (.int .i64)) (u2 : P.underlying f2.type = some (.int .u64)) (u3 : P.underlying f3.type = some (.int .u64)) (u4 : P.underlying f4.type = some (.int .i64))
    (h : DataW.trod enc P w base spare held fuel t cs = some y) : ∃ i : It, cs = itc i := by
  obtain ⟨ys, n, _, _, hlen, hyl, hf⟩ := DataW.trod_struct hs h
  rw [hC] at hlen
  match cs, hlen with
  | [c0, c1, c2, c3, c4], _ =>
    have got : ∀ (j : Nat) (f : Field) (hj : #[f0, f1, f2, f3, f4][j]? = some f), ∃ y, DataW.trod enc P w base spare held n f.type (([c0, c1, c2, c3, c4].drop j).take 1) = some y := by
      intro j f hj
      obtain ⟨ho, hk⟩ := hone_of hone j f hj
      have h1 := hf j f hj
      rw [ho, hk] at h1
      have hjl : j < ys.length := by
        have := (Array.getElem?_eq_some_iff.1 hj).1
        rw [hyl]; exact this
      exact ⟨ys[j], h1.trans (List.getElem?_eq_getElem hjl)⟩
    obtain ⟨y0, g0⟩ := got 0 f0 rfl
    obtain ⟨y1, g1⟩ := got 1 f1 rfl
    obtain ⟨y2, g2⟩ := got 2 f2 rfl
    obtain ⟨y3, g3⟩ := got 3 f3 rfl
    obtain ⟨y4, g4⟩ := got 4 f4 rfl
    obtain ⟨n0, e0, _, w0⟩ := DataW.trod_int u0 g0
    obtain ⟨n1, e1, _, w1⟩ := DataW.trod_int u1 g1
    obtain ⟨n2, e2, _, w2⟩ := DataW.trod_int u2 g2
    obtain ⟨n3, e3, _, w3⟩ := DataW.trod_int u3 g3
    obtain ⟨n4, e4, _, w4⟩ := DataW.trod_int u4 g4
    simp only [List.drop_zero, List.drop_succ_cons, List.take_succ_cons, List.take_zero, List.cons.injEq, and_true] at e0 e1 e2 e3 e4
    subst e0; subst e1; subst e2; subst e3; subst e4
    refine ⟨⟨Int64.ofInt n0, Int64.ofInt n1, UInt64.ofNat n2.toNat, UInt64.ofNat n3.toNat, Int64.ofInt n4⟩, ?_⟩
    simp only [itc]
    rw [← i64_of w0, ← i64_of w1, ← u64_of w2, ← u64_of w3, ← i64_of w4]

theorem item_cells' {fuel : Nat} {cs : List Value} {y : DataW H × List MemPlace} (h : DataW.trod enc Try.prog w base spare held fuel 27 cs = some y) : ∃ i : It, cs = itc i :=
  item_cells Try.underlying27 (by kernel_rfl) (by kernel_rfl) Try.underlying3 Try.underlying3 Try.underlying22 Try.underlying22 Try.underlying2 h
/-- an item by value -/
theorem is_item {b0 : Nat} {v : Value} {d : DataW H} {p : List MemPlace} (hv : Value.okWide Try.prog w .any b0 27 v) (h : DataW.Trod enc Try.prog w base spare held 27 v d p) :
    ∃ i : It, v = .agg (itc i).toArray := by
  obtain ⟨cs, rfl, hsz⟩ := okWide_struct Try.underlying27 hv
  obtain ⟨fuel, hf⟩ := h
  obtain ⟨i, hi⟩ := item_cells' hf
  refine ⟨i, ?_⟩
  congr 1
  apply Array.toList_inj.1
  simpa [Value.cells] using hi
end
end Go.Proofs.Ytnbdijifhimogaa
