/-
  The walk of the law NumTakes.
-/
import Derived.Test.YtenkamppgcgcdaaRefW1
import Derived.Test.YtenkamppgcgcdaaOpen
namespace Go.Proofs.Ytenkamppgcgcdaa.numTakes
open Go.RowKit
set_option linter.unusedVariables false

set_option maxRecDepth 100000 in
set_option maxHeartbeats 1600000 in
theorem law_any (A : Option Addr) (m c : Nat) (l : List UInt8) (w : World) (h1 : IsB w A m c l) :
    Calls Try.prog 7 #[.slice A m c] w fun e w' => e = .returned (.bool true) ∧ Up w w' := by
  obtain ⟨hr, hmc, hc⟩ := h1
  have HM := Lib.hid hr.blen
  have hcv := run_str c hr
  obtain ⟨s, hs⟩ : ∃ s : ByteArray, ByteArray.mk l.toArray = s := ⟨_, rfl⟩
  have hsl : s.data.toList = l := by rw [← hs]
  have hsz : s.size ≤ 9223372036854775807 := by rw [size_str hsl]; have := HM.out; omega
  rw [hs] at hcv
  have HSL := Lib.hid hsl
  clear hs hsl
  go_enter Try.func7, Try.ntmps7
  go_wp2_with fail
  refine (take_any A m c l w hr (by omega)).mono ?_
  rintro e w1 ⟨rfl, rfl⟩
  go_wp2_with fail
  refine (rtake_any s l w HSL.out hsz).mono ?_
  rintro e w1 ⟨rfl, rfl⟩
  go_wp2_with fail
  refine (uneight_any A m c l w hr (by omega) hmc).mono ?_
  rintro e w1 ⟨rfl, rfl⟩
  go_wp2_with fail
  refine (runeight_any s l w HSL.out hsz).mono ?_
  rintro e w1 ⟨rfl, rfl⟩
  go_wp2_with fail
  refine (awake_any w).mono ?_
  rintro e w1 ⟨rfl, hu⟩
  go_wp2_with fail
  go_ret
  exact ⟨rfl, hu⟩
end Go.Proofs.Ytenkamppgcgcdaa.numTakes
