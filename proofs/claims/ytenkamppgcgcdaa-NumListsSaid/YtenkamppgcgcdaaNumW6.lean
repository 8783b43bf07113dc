/-
  The walk of the laws' awake.
-/
import Derived.Test.YtenkamppgcgcdaaNumW5
namespace Go.Proofs.Ytenkamppgcgcdaa
open Go.RowKit
set_option linter.unusedVariables false

theorem numB300 : numB 300 = [172, 2] := by rw [numB_hi (by decide), numB_lo (by decide)]; decide
theorem take300 : takeL [172, 2, 9] = (300, 2, 0) := by decide

set_option maxRecDepth 100000 in
set_option maxHeartbeats 800000 in
theorem awake_any (w : World) : Calls Try.prog 13 #[] w fun e w' => e = .returned (.bool true) ∧ Up w w' := by
  go_enter Try.func13, Try.ntmps13
  go_wp2_with fail
  refine (take_any _ _ _ [172, 2, 9] _ (Rd.lit w [172, 2, 9] _ _ rfl) (by decide)).mono ?_
  rintro e w1 ⟨rfl, rfl⟩
  rw [take300]
  go_wp2_with fail
  refine (put_any none 0 0 [] 300 _ Rd.empty (by omega) (by omega)).mono ?_
  rintro e w1 ⟨A1, n1, c1, rfl, ho1, hu1⟩
  rw [numB300, List.nil_append] at ho1
  have hcv := run_str c1 ho1.rd
  go_wp2_with fail
  refine (sign_any (-1) _ (by omega) (by omega)).mono ?_
  rintro e w2 ⟨rfl, rfl⟩
  rw [show signN (-1) = 1 from rfl]
  go_wp2_with fail
  refine (unsign_any 2 _ (by omega)).mono ?_
  rintro e w2 ⟨rfl, rfl⟩
  rw [show unsignZ 2 = 1 from rfl]
  go_wp2_with fail
  go_ret
  exact ⟨rfl, ((Up.refl w).alloc _).trans hu1⟩
end Go.Proofs.Ytenkamppgcgcdaa
