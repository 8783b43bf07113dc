/- Texts of this claim, joined: RegionIn. -/
import Derived.RangeFuncCalls
import Derived.RangeFuncOwn
import Derived.ControlIn
import Derived.OwnWalkIn
import Derived.Test.YtfghplfgndppfaaGreatDoorZ3
set_option linter.unusedVariables false
set_option linter.unusedSimpArgs false
set_option maxRecDepth 100000
set_option maxHeartbeats 8000000
namespace Go.Proofs.YtfghplfgndppfaaGreatDoor
namespace V
open Go Go.CheckFast Go.RowKit
section
variable{P:Program}{ops:Array Oper}{Q:Exit->Act->World->Prop}{aW:Nat->Prop}{w0:World}{S:World->Prop}
variable{a0:Act}{gC:World->Prop}
end
section
variable{P:Program}{Q:Exit->Act->World->Prop}
end
section
variable{P:Program}{l:List Oper}{Q:Exit->Act->World->Prop}{a:Act}{w:World}{id:Nat}{out:List Out}
end
end V
end Go.Proofs.YtfghplfgndppfaaGreatDoor
