/- Texts of this claim, joined: TopNeedC. -/
import Derived.Test.YtfghplfgndppfaaGreatDoorYTopNeedQ
set_option linter.unusedVariables false
set_option linter.unusedSimpArgs false
set_option maxRecDepth 100000
set_option maxHeartbeats 8000000
namespace Go.Proofs.YtfghplfgndppfaaGreatDoor
open Go.Proofs.Tryz
namespace topNeed
open Go.ChangeShapes Go.WideShapes Go.ChangeAt Go.RowKit
theorem amh{a b:Bool}(h:a=true)(k:b=true):(a&&b)=true:=by rw[h,k];rfl
theorem closed:joinedFacts Tryz.pinned.checked.prog 3 Tryz.f3 Rows.topNeedSpec Rows.topNeedRow=true:=by
 unfold joinedFacts;repeat' (with_reducible apply amh)
 all_goals as_aux_lemma=>kernel_rfl
end topNeed
end Go.Proofs.YtfghplfgndppfaaGreatDoor
