/-
  The walks of num: Take.
-/
import Derived.Test.YtkapaklikgckgaaNumW1
namespace Go.Proofs.Ytkapaklikgckgaa
open Go.RowKit
set_option linter.unusedVariables false


end Go.Proofs.Ytkapaklikgckgaa
