/-
  The walks of num: Sign, Unsign, Uneight, Eight.
-/
import Derived.Test.YtnbdijifhimogaaNumW2
namespace Go.Proofs.Ytnbdijifhimogaa
open Go.RowKit
set_option linter.unusedVariables false

theorem sign_any (n : Int) (w : World) (h1 : -9223372036854775808 ≤ n) (h2 : n ≤ 9223372036854775807) :
    Calls Try.prog 35 #[.int .i64 n] w fun e w' => e = .returned (.int .u64 (signN n : Int)) ∧ w = w' := by
  go_enter Try.func35, Try.ntmps35
  go_wp2
  go_ret
  exact ⟨by rw [← sign_val n h1 h2]; rfl, rfl⟩

theorem unsign_any (n : Nat) (w : World) (h2 : (n : Int) ≤ 18446744073709551615) :
    Calls Try.prog 52 #[.int .u64 (n : Int)] w fun e w' => e = .returned (.int .i64 (unsignZ n)) ∧ w = w' := by
  go_enter Try.func52, Try.ntmps52
  go_wp2
  go_ret
  exact ⟨by rw [← unsign_val n (by omega)]; rfl, rfl⟩



end Go.Proofs.Ytnbdijifhimogaa
