/-
  The walks of the document's answers for items: Key, May, Equal; of the law's Some.
-/
import Derived.Test.YtnbdijifhimogaaItemW4
import Derived.Test.YtnbdijifhimogaaRefW2
import Derived.Test.YtnbdijifhimogaaTx
namespace Go.Proofs.Ytnbdijifhimogaa
open Go.RowKit
set_option linter.unusedVariables false
set_option linter.unusedSimpArgs false

end Go.Proofs.Ytnbdijifhimogaa
