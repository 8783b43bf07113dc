/-
  The walks of num: Sign, Unsign, Uneight, Eight.
-/
import Derived.Test.YtokcaoaclheiiaaNumW2
namespace Go.Proofs.Ytokcaoaclheiiaa
open Go.RowKit
set_option linter.unusedVariables false





end Go.Proofs.Ytokcaoaclheiiaa
