/-
  Opening arguments: slices of slices of bytes.
-/
import Derived.Test.YtnbdijifhimogaaOpenE
namespace Go.Proofs.Ytnbdijifhimogaa
open Go.ChangeShapes Go.WideShapes Go.ChangeAt Go.RowKit Go.Deep
set_option linter.unusedVariables false

/-- a slice of slices of bytes that came in -/
def IsR (w : World) (A : Option Addr) (n c : Nat) (ps : List Pt) : Prop := Rd w w.heap.size 1 A n (ps.map Pt.v) ∧ (∀ p ∈ ps, IsB w p.A p.n p.c p.l) ∧ n ≤ c ∧ c ≤ 9223372036854775807
section
variable {H : Type} {enc : TypeId × Value → H} {W : World} {sp : Nat → Bool} {a : Option Addr} {len cap : Nat} {d : DataW H} {p : List MemPlace}
theorem body_cells {fuel : Nat} {cs : List Value} {y : DataW H × List MemPlace} (hf : DataW.trod enc Try.prog W 0 (fun _ => true) true fuel 28 cs = some y) : ∃ p : Pt, cs = [p.v] ∧ IsB W p.A p.n p.c p.l := by
  rcases open_ints Try.underlying28 Try.underlying5 (by kernel_rfl) hf with ⟨hcs, _⟩ | ⟨x, l, c, zs, hcs, _, hl, hm, hz, _, hcell, hwz⟩
  · exact ⟨⟨none, 0, 0, []⟩, hcs, Rd.empty, by simp, by simp⟩
  · refine ⟨⟨some x, l, c, _⟩, hcs, rd_ints bv (fun n => UInt8.ofNat n.toNat) (fun n hn => ?_) hl (by simpa using hz) hcell hwz, hl, by simpa only [maxLen] using hm⟩
    have := bd_u8 hn
    rw [bv_ofNat]; congr 1; omega
instance : Inhabited { p : Pt // IsB W p.A p.n p.c p.l } := ⟨⟨⟨none, 0, 0, []⟩, Rd.empty, by simp, by simp⟩⟩
theorem is_r (h : DataW.Trod enc Try.prog W 0 (fun _ => true) true 87 (.slice a len cap) d p) : ∃ ps, IsR W a len cap ps := by
  obtain ⟨fuel, hf⟩ := h
  rcases open_slice Try.underlying87 hf with ⟨hcs, _⟩ | ⟨x, l, c, m, n, D, Pl, hcs, _, hl, hm, hmm, _, hx⟩
  · simp [Value.cells] at hcs
    obtain ⟨rfl, rfl, rfl⟩ := hcs
    exact ⟨[], Rd.empty, fun p hp => (by cases hp), by omega, by omega⟩
  · simp [Value.cells] at hcs
    obtain ⟨rfl, rfl, rfl⟩ := hcs
    have hC : Try.prog.cellsOf 28 = 1 := by kernel_rfl
    rw [hC] at hx
    obtain ⟨L, hL, hr⟩ := rd_elems (α := { p : Pt // IsB W p.A p.n p.c p.l }) (W := W) (len := len) (a := x) (base := 0) (fun p => [p.1.v]) (sz := 1) (fun _ => rfl) (by omega) (fun i hi => by
      obtain ⟨cs', h1, h2⟩ := hx i (by simp at hmm; omega)
      obtain ⟨p, e, hp⟩ := body_cells h2
      exact ⟨cs', h1, ⟨p, hp⟩, e⟩)
    refine ⟨L.map (·.1), ?_, fun p hp => ?_, hl, by simpa only [maxLen] using hm⟩
    · have e : (L.map (·.1)).map Pt.v = L.flatMap fun p => [p.1.v] := by
        clear hr hL
        induction L with
        | nil => rfl
        | cons q r ih => simp only [List.map_cons, List.flatMap_cons, List.singleton_append, ih]
      rw [e]; exact hr
    · obtain ⟨q, _, rfl⟩ := List.mem_map.1 hp
      exact q.2
end
end Go.Proofs.Ytnbdijifhimogaa
