/-
  Opening arguments: slices of integers as lists of bytes and numbers; bounds of integers.
-/
import Derived.Test.YtnbdijifhimogaaBase
import Derived.ProofKit
import Derived.OpenShut
import Derived.ShutString
import Derived.ChangeOld
namespace Go.Proofs.Ytnbdijifhimogaa
open Go.ChangeShapes Go.WideShapes Go.ChangeAt Go.RowKit
set_option linter.unusedVariables false

theorem prog_own : ownKnob Try.prog.godebug = none := by kernel_rfl
theorem laidOut : laidOutB Try.prog = true := by kernel_rfl

theorem bd_i64 {x : Int} (h : (Lit.int .i64 x).wf = true) : -9223372036854775808 ≤ x ∧ x ≤ 9223372036854775807 := by
  simpa [Lit.wf, IntKind.min, IntKind.max, IntKind.signed, IntKind.bits] using h
theorem bd_u64 {x : Int} (h : (Lit.int .u64 x).wf = true) : 0 ≤ x ∧ x ≤ 18446744073709551615 := by
  simpa [Lit.wf, IntKind.min, IntKind.max, IntKind.signed, IntKind.bits] using h
theorem bd_u8 {x : Int} (h : (Lit.int .u8 x).wf = true) : 0 ≤ x ∧ x ≤ 255 := by
  simpa [Lit.wf, IntKind.min, IntKind.max, IntKind.signed, IntKind.bits] using h

theorem rd_ints {W : World} {k : IntKind} {α : Type} (val : α → Value) (ofI : Int → α) (hof : ∀ n, (Lit.int k n).wf = true → val (ofI n) = .int k n) {a : Addr} {len cap : Nat} {zs : List Int}
    (hl : len ≤ cap) (hz : zs.length = cap) (hcell : ∀ i, i < zs.length → W.cell? (a.add i) = some (.int k (zs.getD i 0))) (hwz : ∀ n ∈ zs, (Lit.int k n).wf = true) :
    Rd W W.heap.size 1 (some a) len (((zs.take len).map ofI).map val) := by
  have hm : ((zs.take len).map ofI).map val = (zs.take len).map (Value.int k) := by
    rw [List.map_map]
    exact List.map_congr_left fun n hn => hof n (hwz n (List.mem_of_mem_take hn))
  rw [hm]
  refine ⟨by simp; omega, fun hn => ?_⟩
  obtain ⟨b, o, spot⟩ := a
  have hspot : spot = none := by simpa [Addr.add] using World.cell?_spot (hcell 0 (by omega))
  subst hspot
  refine ⟨b, o, rfl, ?_, fun j u hu => ?_⟩
  · have h0 := hcell 0 (by omega)
    have := World.block_lt_of_cell? W _ h0
    simpa [Addr.add] using this
  · have hj : j < len ∧ j < zs.length := by
      have := (List.getElem?_eq_some_iff.1 hu).1
      simp at this; omega
    have e : (⟨b, o, none⟩ : Addr).add j = ⟨b, o + j, none⟩ := by unfold Addr.add; split <;> simp_all
    rw [← e, hcell j hj.2]
    simp [hj.1, hj.2] at hu
    rw [← hu]
    simp [List.getD, hj.2]

/-- a slice of bytes that came in -/
def IsB (w : World) (A : Option Addr) (n c : Nat) (l : List UInt8) : Prop := Rd w w.heap.size 1 A n (bvs l) ∧ n ≤ c ∧ c ≤ 9223372036854775807

section
variable {H : Type} {enc : TypeId × Value → H} {W : World} {sp : Nat → Bool} {a : Option Addr} {len cap : Nat} {d : DataW H} {p : List MemPlace}
theorem is_b (h : DataW.Trod enc Try.prog W 0 (fun _ => true) true 28 (.slice a len cap) d p) : ∃ l, IsB W a len cap l := by
  obtain ⟨fuel, hf⟩ := h
  rcases open_ints Try.underlying28 Try.underlying5 (by kernel_rfl) hf with ⟨hcs, _⟩ | ⟨x, l, c, zs, hcs, _, hl, hm, hz, _, hcell, hwz⟩
  · simp [Value.cells] at hcs
    obtain ⟨rfl, rfl, rfl⟩ := hcs
    exact ⟨[], Rd.empty, by omega, by omega⟩
  · simp [Value.cells] at hcs
    obtain ⟨rfl, rfl, rfl⟩ := hcs
    refine ⟨_, rd_ints bv (fun n => UInt8.ofNat n.toNat) (fun n hn => ?_) hl (by simpa using hz) hcell hwz, hl, by simpa only [maxLen] using hm⟩
    have := bd_u8 hn
    rw [bv_ofNat]; congr 1; omega
end
end Go.Proofs.Ytnbdijifhimogaa
