/-
  The walk of clepsydraref1.Split.
-/
import Derived.Test.YtnbdijifhimogaaFrameW10
namespace Go.Proofs.Ytnbdijifhimogaa
open Go.RowKit
set_option linter.unusedVariables false
set_option linter.unusedSimpArgs false

end Go.Proofs.Ytnbdijifhimogaa
