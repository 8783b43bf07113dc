/-
  The walk of clepsydraref1.Split.
-/
import Derived.Test.YtokcaoaclheiiaaFrameW10
namespace Go.Proofs.Ytokcaoaclheiiaa
open Go.RowKit
set_option linter.unusedVariables false
set_option linter.unusedSimpArgs false

end Go.Proofs.Ytokcaoaclheiiaa
