/-
  Opening arguments: structs of one-cell fields; four numbers (api.Meta).
-/
import Derived.Test.YtokcaoaclheiiaaOpenE
namespace Go.Proofs.Ytokcaoaclheiiaa
open Go.ChangeShapes Go.WideShapes Go.ChangeAt Go.RowKit Go.Deep
set_option linter.unusedVariables false
section
variable {H : Type} {enc : TypeId × Value → H} {P : Program} {w : World} {base : Nat} {spare : Nat → Bool} {held : Bool}
theorem struct_one {t : TypeId} {fs : Array Field} {fuel : Nat} {cs : List Value} {y : DataW H × List MemPlace} (hs : P.underlying t = some (.struct fs)) (hone : oneCellFields P fs = true) (hC : P.cellsOf t = fs.size)
    (h : DataW.trod enc P w base spare held fuel t cs = some y) : cs.length = fs.size ∧ ∃ n, ∀ (j : Nat) (f : Field), fs[j]? = some f → ∃ y, DataW.trod enc P w base spare held n f.type ((cs.drop j).take 1) = some y := by
  obtain ⟨ys, n, _, _, hlen, hyl, hf⟩ := DataW.trod_struct hs h
  rw [hC] at hlen
  refine ⟨hlen, n, fun j f hj => ?_⟩
  obtain ⟨ho, hk⟩ := hone_of hone j f hj
  have h1 := hf j f hj
  rw [ho, hk] at h1
  have hjl : j < ys.length := by
    have := (Array.getElem?_eq_some_iff.1 hj).1
    rw [hyl]; exact this
  exact ⟨ys[j], h1.trans (List.getElem?_eq_getElem hjl)⟩
end
theorem u64_nat {n : Int} (h : (Lit.int .u64 n).wf = true) : ∃ k : Nat, n = (k : Int) ∧ k < 18446744073709551616 := by
  have := bd_u64 h
  exact ⟨n.toNat, by omega, by omega⟩
section
variable {H : Type} {enc : TypeId × Value → H} {w : World} {base : Nat} {spare : Nat → Bool} {held : Bool}
set_option maxRecDepth 100000 in
theorem is_meta {b0 : Nat} {v : Value} {d : DataW H} {p : List MemPlace} (hv : Value.okWide Try.prog w .any b0 24 v) (h : DataW.Trod enc Try.prog w base spare held 24 v d p) :
    ∃ a0 a1 a2 a3 : Nat, v = .agg #[.int .u64 (a0 : Int), .int .u64 (a1 : Int), .int .u64 (a2 : Int), .int .u64 (a3 : Int)] ∧ a0 < 18446744073709551616 ∧ a1 < 18446744073709551616 ∧ a2 < 18446744073709551616 ∧ a3 < 18446744073709551616 := by
  obtain ⟨cs, rfl, hsz⟩ := okWide_struct Try.underlying24 hv
  obtain ⟨fuel, hf⟩ := h
  obtain ⟨hlen, n, got⟩ := struct_one Try.underlying24 (by kernel_rfl) (by kernel_rfl) hf
  obtain ⟨y0, g0⟩ := got 0 _ rfl
  obtain ⟨y1, g1⟩ := got 1 _ rfl
  obtain ⟨y2, g2⟩ := got 2 _ rfl
  obtain ⟨y3, g3⟩ := got 3 _ rfl
  obtain ⟨n0, e0, _, w0⟩ := DataW.trod_int Try.underlying22 g0
  obtain ⟨n1, e1, _, w1⟩ := DataW.trod_int Try.underlying22 g1
  obtain ⟨n2, e2, _, w2⟩ := DataW.trod_int Try.underlying22 g2
  obtain ⟨n3, e3, _, w3⟩ := DataW.trod_int Try.underlying22 g3
  obtain ⟨k0, rfl, b0⟩ := u64_nat w0
  obtain ⟨k1, rfl, b1⟩ := u64_nat w1
  obtain ⟨k2, rfl, b2⟩ := u64_nat w2
  obtain ⟨k3, rfl, b3⟩ := u64_nat w3
  refine ⟨k0, k1, k2, k3, ?_, b0, b1, b2, b3⟩
  congr 1
  apply Array.toList_inj.1
  have hcs : (Value.agg cs).cells.toList = cs.toList := rfl
  rw [hcs] at e0 e1 e2 e3
  have hl4 : cs.toList.length = 4 := hlen
  generalize cs.toList = l at *
  match l, hl4 with
  | [c0, c1, c2, c3], _ =>
    simp only [List.drop_zero, List.drop_succ_cons, List.take_succ_cons, List.take_zero, List.cons.injEq, and_true] at e0 e1 e2 e3
    rw [e0, e1, e2, e3]
end
end Go.Proofs.Ytokcaoaclheiiaa
