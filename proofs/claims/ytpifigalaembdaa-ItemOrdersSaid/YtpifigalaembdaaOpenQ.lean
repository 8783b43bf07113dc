/-
  Opening arguments: slices of numbers.
-/
import Derived.Test.YtpifigalaembdaaOpen
import Derived.Test.YtpifigalaembdaaBaseQ
namespace Go.Proofs.Ytpifigalaembdaa
open Go.ChangeShapes Go.WideShapes Go.ChangeAt Go.RowKit
set_option linter.unusedVariables false

def IsQ (w : World) (A : Option Addr) (n c : Nat) (l : List UInt64) : Prop := Rd w w.heap.size 1 A n (qvs l) ∧ n ≤ c ∧ c ≤ 9223372036854775807
section
variable {H : Type} {enc : TypeId × Value → H} {W : World} {sp : Nat → Bool} {a : Option Addr} {len cap : Nat} {d : DataW H} {p : List MemPlace}
theorem is_q (h : DataW.Trod enc Try.prog W 0 (fun _ => true) true 38 (.slice a len cap) d p) : ∃ l, IsQ W a len cap l := by
  obtain ⟨fuel, hf⟩ := h
  rcases open_ints Try.underlying38 Try.underlying22 (by kernel_rfl) hf with ⟨hcs, _⟩ | ⟨x, l, c, zs, hcs, _, hl, hm, hz, _, hcell, hwz⟩
  · simp [Value.cells] at hcs
    obtain ⟨rfl, rfl, rfl⟩ := hcs
    exact ⟨[], Rd.empty, by omega, by omega⟩
  · simp [Value.cells] at hcs
    obtain ⟨rfl, rfl, rfl⟩ := hcs
    refine ⟨_, rd_ints qv (fun n => UInt64.ofNat n.toNat) (fun n hn => ?_) hl (by simpa using hz) hcell hwz, hl, by simpa only [maxLen] using hm⟩
    have := bd_u64 hn
    rw [qv_ofNat]; congr 1; omega
end
end Go.Proofs.Ytpifigalaembdaa
