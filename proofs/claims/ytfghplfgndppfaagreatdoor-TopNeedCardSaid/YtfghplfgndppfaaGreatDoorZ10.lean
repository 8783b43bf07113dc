/- Texts of this claim, joined: RefW3. -/
import Derived.Deep.QuietTactic
import Derived.BigQuiet
import Derived.Test.YtfghplfgndppfaaGreatDoorZ6
set_option linter.unusedVariables false
set_option linter.unusedSimpArgs false
set_option maxRecDepth 100000
set_option maxHeartbeats 8000000
namespace Go.Proofs.YtfghplfgndppfaaGreatDoor
section
open Go.RowKit
end
end Go.Proofs.YtfghplfgndppfaaGreatDoor
