/-
  The walk of the laws' awake.
-/
import Derived.Test.YtokcaoaclheiiaaNumW5
namespace Go.Proofs.Ytokcaoaclheiiaa
open Go.RowKit
set_option linter.unusedVariables false

theorem numB300 : numB 300 = [172, 2] := by rw [numB_hi (by decide), numB_lo (by decide)]; decide
theorem take300 : takeL [172, 2, 9] = (300, 2, 0) := by decide

end Go.Proofs.Ytokcaoaclheiiaa
