/- TopNeed holds for all arguments: of two majorities one node answers both, so a get sees each put that was told as done, whichever nodes are down at either; there is no condition beyond those of the tied card. -/
import Derived.Test.YtfghplfgndppfaaGreatDoorYTopNeedC
set_option linter.unusedVariables false
set_option linter.unusedSimpArgs false
set_option maxRecDepth 100000
set_option maxHeartbeats 8000000
namespace Go.Proofs.YtfghplfgndppfaaGreatDoor
open Go.Proofs.Tryz
namespace topNeed
open Go.ChangeShapes Go.WideShapes Go.ChangeAt Go.RowKit
theorem MK:Tryz.pinned.checked.prog.funcNamed Rows.topNeedRow.func=some 3:=by kernel_rfl
theorem ami:Rows.TopNeedSaid:=
 OpenClaim.holds_of_wide 3 Tryz.f3 rfl rfl rfl rfl rfl rfl rfl ⟨rfl,rfl,rfl,rfl,rfl⟩ rfl rfl rfl rfl rfl MK func3 closed
  (of_decide_eq_true (by kernel_rfl)) (by unfold Func.isWrapper;first|(rw[if_pos (by decide +kernel)];kernel_rfl)|(rw[if_neg (by decide +kernel)];exact⟨rfl,rfl⟩))
  (λos started H enc _=>lifted os started H enc)
theorem amj:Rows.topNeedRow.wfByText (OpenSpec.ofChange Rows.topNeedSpec)=true:=by kernel_rfl
theorem amk:Tryz.pinned.checked.prog.mainIs=some (true,"23f8f3ba73f3fd2756b6ad7c88306dbeea1e283ae6e1af666526f4ced263a2e6".toList):=by kernel_rfl
theorem aml:true=Tryz.pinned.checked.prog.looks []:=by kernel_rfl
theorem amm:false=Rows.topNeedRow.goesBy Tryz.pinned.checked.prog:=by kernel_rfl
theorem amn:([3,3,3,3,3,2].all λu=> !prog.wantsStandIn u)=true:=by kernel_rfl
theorem proved:Rows.TopNeedCardSaid:=
 Claim7.holds_tied_plain_at .later [] [.data,.data,.data,.sentinel,.sentinel] true (true,"23f8f3ba73f3fd2756b6ad7c88306dbeea1e283ae6e1af666526f4ced263a2e6") true
  ami (λ_ h=>by cases h) amj (λ_ h=>by cases h) topNeed_row_tie rfl ⟨rfl,rfl⟩ amk rfl
  (λf fn hf hfn=>by
   obtain rfl:f=3:=(Option.some.inj (MK.symm.trans hf)).symm;obtain rfl:fn=Tryz.f3:=(Option.some.inj (func3.symm.trans hfn)).symm;exact⟨aml,λj t ht=>by
    rw[Tryz.params3] at ht;have hm:t∈ [3,3,3,3,3,2]:=by simpa using Array.mem_of_getElem? ht
    exact(show prog.wantsStandIn t=false by simpa using List.all_eq_true.1 amn t hm)⟩)
  amm
#print axioms proved
end topNeed
end Go.Proofs.YtfghplfgndppfaaGreatDoor
