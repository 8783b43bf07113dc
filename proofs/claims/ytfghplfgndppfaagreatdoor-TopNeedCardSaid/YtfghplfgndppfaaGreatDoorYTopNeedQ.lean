/- Texts of this claim, joined: TopNeedQ. -/
import Derived.Test.YtfghplfgndppfaaGreatDoorCards
import Derived.Test.YtfghplfgndppfaaGreatDoorTie
import Derived.ProofKit
import Derived.OpenShut
import Derived.Handy
import Derived.Lay
import Derived.Stop.LaidErr
import Derived.Stop.Joined
import Derived.SevenTiedAt
import Derived.Test.YtfghplfgndppfaaGreatDoorYTopNeedA
set_option linter.unusedVariables false
set_option linter.unusedSimpArgs false
set_option maxRecDepth 100000
set_option maxHeartbeats 8000000
namespace Go.Proofs.YtfghplfgndppfaaGreatDoor
open Go.Proofs.Tryz
namespace topNeed
open Go.ChangeShapes Go.WideShapes Go.ChangeAt Go.RowKit
theorem B1:prog.globalNamed "strconv.ErrSyntax" =some 1:=by kernel_rfl
theorem ama:(prog.globals[1]?).map (·.type)=some 372:=by kernel_rfl
theorem star: "*" ++ "errors.errorString" = "*errors.errorString" :=by decide
theorem amb(u:TypeId) (h:prog.typeName? 3 u=some "*errors.errorString"):u=477:=
 typeName_ptr_named (nm:= "errors.errorString") (by rw[star];kernel_rfl) (by kernel_rfl) (by decide) u (by rw[star];exact h)
theorem amc:prog.cellsOf 479=1:=by kernel_rfl
theorem amd:prog.cellsOf 9=1:=by kernel_rfl
theorem aoH:sy.g 15=1:=rfl
theorem ame{W:World}(h:laidMetH prog Rows.topNeedRow.laid W):iX W:=by
 rw[MakeChecks.laidMetH_plain _ _ _ (by kernel_rfl)] at h;have h5:laidMet prog [("strconv.ErrSyntax",Rows.laid_strconv_ErrSyntax)] W:=h.tail.tail.tail.tail;obtain⟨a0,jd,Ul,-,-,-⟩:=laid_sentinel h5 B1 ama underlying372 amb underlying477 underlying479 rfl rfl underlying9 amc amd;have hc:W.cell? ⟨1,0,none⟩=some (.iface 477 (.pointer (some a0))):=by simpa using World.var?_cell B1 Ul 0
 exact⟨477,.pointer (some a0),hc⟩
theorem lifted(os:Os)(started:os.Started)(H:Type)(enc:TypeId×Value->H):
 ReturnsInHanded {} Tryz.checked os 3 .any (λw args=>(Rows.topNeedSpec.pre enc prog Tryz.f3 [] false w args/\laidMetH prog Rows.topNeedRow.laid w)/\sizedMet enc prog Tryz.f3 (OpenSpec.ofChange Rows.topNeedSpec) false w args) (Rows.topNeedSpec.post enc prog Tryz.f3 false true false false):=by
 refine returnsInHanded_of_change_and (C:=Tryz.checked) (X:=λw _=>laidMetH prog Rows.topNeedRow.laid w) (λ_ _ _ hh h=>h.of_heap hh) W3 started (by kernel_rfl) func3
  (ChangeSpec.witness_shaped (enc:=enc) (C:=Tryz.checked) (os:=os) (X:=λw _=>laidMetH prog Rows.topNeedRow.laid w) false (World.laidAll prog os Rows.topNeedRow.laid) #[.int .i64 0,.int .i64 0,.int .i64 0,.int .i64 0,.int .i64 0,.int .i64 0] 8 (World.laidAll_os _ _ _)
   (World.shaped_of_ZipB (by kernel_rfl) (by kernel_rfl)) (by kernel_rfl) (by kernel_rfl) (by kernel_rfl)
   (by rw[MakeChecks.laidMetH_plain _ _ _ (by kernel_rfl)];exact laidMet_laidAll _ (by kernel_rfl) (by kernel_rfl))) ?_
 intro W base args ds gs before de hW hcnd _ hL _;have hval:∀(j:Nat) t v,Tryz.f3.params[j]?=some t->args[j]?=some v->Value.okWide prog W .any base t v:=de;have amf:=hW;obtain⟨p,q,xl,hV,rfl,hfz,hnd⟩:=hW;have hA:DataW.TrodAll enc prog W 0 (λ_=>true) true Tryz.f3.params.toList args.toList ds p:=xl;rw[Tryz.params3] at hA hval;obtain⟨v0,aoI,d0,aoJ,SW,q0,hargs,rfl,rfl,h0,pd⟩:=trodAll_cons hA;obtain⟨v1,aoK,d1,aoL,p1,q1,rfl,rfl,rfl,h1,r1⟩:=trodAll_cons pd;obtain⟨v2,aoM,d2,aoN,p2,cP,rfl,rfl,rfl,h2,r2⟩:=trodAll_cons r1;obtain⟨v3,aoO,d3,aoP,p3,dQ,rfl,rfl,rfl,h3,r3⟩:=trodAll_cons r2
 obtain⟨v4,aoQ,d4,aoR,tE,eX,rfl,rfl,rfl,h4,iK⟩:=trodAll_cons r3;obtain⟨v5,aoS,d5,aoT,vM,fM,rfl,rfl,rfl,h5,ki⟩:=trodAll_cons iK;obtain⟨rfl,rfl,rfl⟩:=trodAll_nil ki;obtain rfl:args= #[v0,v1,v2,v3,v4,v5]:=by cases args;simp_all
 obtain⟨rfl,rfl⟩:=trodVars_none hV;obtain⟨a0,rfl,rfl,rfl,w0⟩:=open_int underlying3 (hval 0 3 v0 rfl rfl) h0;obtain⟨a1,rfl,rfl,rfl,w1⟩:=open_int underlying3 (hval 1 3 v1 rfl rfl) h1;obtain⟨a2,rfl,rfl,rfl,w2⟩:=open_int underlying3 (hval 2 3 v2 rfl rfl) h2;obtain⟨a3,rfl,rfl,rfl,w3⟩:=open_int underlying3 (hval 3 3 v3 rfl rfl) h3;obtain⟨a4,rfl,rfl,rfl,w4⟩:=open_int underlying3 (hval 4 3 v4 rfl rfl) h4;obtain⟨a5,rfl,rfl,rfl,ai⟩:=open_int underlying2 (hval 5 2 v5 rfl rfl) h5;clear xl de
 refine(al0 a0 a1 a2 a3 a4 a5 W (ame hL) (La ai)).mono λe W' ⟨he,amg⟩=>?_
 subst he;exact⟨_,rfl,_,_,_,[],_,[],amf,trodAll_mk1 (shut_bool underlying4 _),(trodAll_cons_mk (shut_int underlying3 w0) (trodAll_cons_mk (shut_int underlying3 w1) (trodAll_cons_mk (shut_int underlying3 w2) (trodAll_cons_mk (shut_int underlying3 w3) (trodAll_cons_mk (shut_int underlying3 w4) (trodAll_cons_mk (shut_int underlying2 ai) trodAll_mk0)))))),rfl,amg.frame _,λh=>by cases h⟩
end topNeed
end Go.Proofs.YtfghplfgndppfaaGreatDoor
