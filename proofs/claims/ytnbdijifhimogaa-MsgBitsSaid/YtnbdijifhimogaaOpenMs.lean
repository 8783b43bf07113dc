/-
  Opening arguments: messages.
-/
import Derived.Test.YtnbdijifhimogaaOpenM
import Derived.Test.YtnbdijifhimogaaOpenI
namespace Go.Proofs.Ytnbdijifhimogaa
open Go.ChangeShapes Go.WideShapes Go.ChangeAt Go.RowKit Go.Deep
set_option linter.unusedVariables false
set_option linter.unusedSimpArgs false

/-- a message as it lies in memory, and what its row holds -/
structure MsgV where
  k : Int
  f : Int
  t : Int
  id : Nat
  n : Nat
  A : Option Addr
  an : Nat
  ac : Nat
  l : List It
def MsgV.cs (e : MsgV) : List Value := [.int .i64 e.k, .int .i64 e.f, .int .i64 e.t, .int .u64 (e.id : Int), .int .u64 (e.n : Int), .slice e.A e.an e.ac]
structure IsMsg (w : World) (e : MsgV) : Prop where
  k1 : -9223372036854775808 ≤ e.k ∧ e.k ≤ 9223372036854775807
  f1 : -9223372036854775808 ≤ e.f ∧ e.f ≤ 9223372036854775807
  t1 : -9223372036854775808 ≤ e.t ∧ e.t ≤ 9223372036854775807
  ni : e.id < 18446744073709551616
  nn : e.n < 18446744073709551616
  ra : Rd w w.heap.size 5 e.A e.an (itcs e.l)
  ac1 : e.an ≤ e.ac
  ac2 : e.ac ≤ 9223372036854775807
section
variable {H : Type} {enc : TypeId × Value → H} {W : World} {sp : Nat → Bool} {a : Option Addr} {len cap : Nat} {d : DataW H} {p : List MemPlace}
theorem items_cells {fuel : Nat} {cs : List Value} {y : DataW H × List MemPlace} (hf : DataW.trod enc Try.prog W 0 (fun _ => true) true fuel 23 cs = some y) :
    ∃ (A : Option Addr) (n c : Nat) (l : List It), cs = [.slice A n c] ∧ Rd W W.heap.size 5 A n (itcs l) ∧ n ≤ c ∧ c ≤ 9223372036854775807 := by
  rcases open_slice Try.underlying23 hf with ⟨hcs, _⟩ | ⟨x, l, c, m, n, D, Pl, hcs, _, hl, hm, hmm, _, hx⟩
  · exact ⟨none, 0, 0, [], hcs, Rd.empty, by omega, by omega⟩
  · have hC : Try.prog.cellsOf 27 = 5 := by kernel_rfl
    rw [hC] at hx
    obtain ⟨L, hL, hr⟩ := rd_elems (W := W) (len := l) (a := x) (base := 0) itc (sz := 5) (fun _ => rfl) (by omega) (fun i hi => by
      obtain ⟨cs', h1, h2⟩ := hx i (by simp at hmm; omega)
      exact ⟨cs', h1, item_cells' h2⟩)
    exact ⟨some x, l, c, L, hcs, hr, hl, by simpa only [maxLen] using hm⟩
set_option maxRecDepth 100000 in
theorem msg_cells {fuel : Nat} {cs : List Value} {y : DataW H × List MemPlace} (hf : DataW.trod enc Try.prog W 0 (fun _ => true) true fuel 25 cs = some y) : ∃ e : MsgV, cs = e.cs ∧ IsMsg W e := by
  obtain ⟨hlen, n, got⟩ := struct_one Try.underlying25 (by kernel_rfl) (by kernel_rfl) hf
  obtain ⟨y0, g0⟩ := got 0 _ rfl
  obtain ⟨y1, g1⟩ := got 1 _ rfl
  obtain ⟨y2, g2⟩ := got 2 _ rfl
  obtain ⟨y3, g3⟩ := got 3 _ rfl
  obtain ⟨y4, g4⟩ := got 4 _ rfl
  obtain ⟨y5, g5⟩ := got 5 _ rfl
  obtain ⟨n0, e0, _, w0⟩ := DataW.trod_int Try.underlying3 g0
  obtain ⟨n1, e1, _, w1⟩ := DataW.trod_int Try.underlying3 g1
  obtain ⟨n2, e2, _, w2⟩ := DataW.trod_int Try.underlying3 g2
  obtain ⟨n3, e3, _, w3⟩ := DataW.trod_int Try.underlying22 g3
  obtain ⟨n4, e4, _, w4⟩ := DataW.trod_int Try.underlying22 g4
  obtain ⟨A, an, ac, l, e5, ha, a1, a2⟩ := items_cells g5
  obtain ⟨k3, rfl, b3⟩ := u64_nat w3
  obtain ⟨k4, rfl, b4⟩ := u64_nat w4
  have hl6 : cs.length = 6 := hlen
  match cs, hl6 with
  | [c0, c1, c2, c3, c4, c5], _ =>
    simp only [List.drop_zero, List.drop_succ_cons, List.take_succ_cons, List.take_zero, List.cons.injEq, and_true] at e0 e1 e2 e3 e4 e5
    exact ⟨⟨n0, n1, n2, k3, k4, A, an, ac, l⟩, by rw [e0, e1, e2, e3, e4, e5]; rfl, bd_i64 w0, bd_i64 w1, bd_i64 w2, b3, b4, ha, a1, a2⟩
set_option maxRecDepth 100000 in
/-- a message by value -/
theorem is_msg {b0 : Nat} {v : Value} (hv : Value.okWide Try.prog W .any b0 25 v) (h : DataW.Trod enc Try.prog W 0 (fun _ => true) true 25 v d p) : ∃ e : MsgV, v = .agg e.cs.toArray ∧ IsMsg W e := by
  obtain ⟨cs, rfl, hsz⟩ := okWide_struct Try.underlying25 hv
  obtain ⟨fuel, hf⟩ := h
  obtain ⟨e, he, hi⟩ := msg_cells hf
  refine ⟨e, ?_, hi⟩
  congr 1
  apply Array.toList_inj.1
  simpa [Value.cells] using he
end
end Go.Proofs.Ytnbdijifhimogaa
