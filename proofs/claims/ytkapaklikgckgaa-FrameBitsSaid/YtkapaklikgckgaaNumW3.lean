/-
  The walks of num: Sign, Unsign, Uneight, Eight.
-/
import Derived.Test.YtkapaklikgckgaaNumW2
namespace Go.Proofs.Ytkapaklikgckgaa
open Go.RowKit
set_option linter.unusedVariables false





end Go.Proofs.Ytkapaklikgckgaa
