/- Texts of this claim, joined: DkIter. -/
import Derived.Shelf.SlIter.Nil
import Derived.Shelf.SortM.Plain
import Derived.Shelf.SortM.SortNone
import Derived.Test.YtfghplfgndppfaaGreatDoorZ6
set_option linter.unusedVariables false
set_option linter.unusedSimpArgs false
set_option maxRecDepth 100000
set_option maxHeartbeats 8000000
namespace Go.Proofs.YtfghplfgndppfaaGreatDoor
open Go.Proofs.Tryz
section
open Go.RowKit Go.Maps Go.Sort Go.Shelf
def HL:Go.Shelf.Ren:=⟨λ| 7=>214|10=>269|n=>n,λ| 23=>87|26=>9|3=>3|28=>304|0=>0|27=>303|33=>242|4=>4|n=>n,λ| n=>n⟩
theorem dc:Go.Proofs.SlLaysZ.n7 prog HL:= {
 mixed:=by kernel_rfl
 f7:=⟨Tryz.f214.name,by decide,func214.trans (congrArg some (by kernel_rfl))⟩
 f10:=⟨Tryz.f269.name,by decide,func269.trans (congrArg some (by kernel_rfl))⟩
 t0:=underlying0
 a0:=isAgg0
 z0:=sizeOf0
 v0:=zeroValue0
 t4:=underlying4
 a4:=isAgg4
 z4:=sizeOf4
 v4:=zeroValue4
 t23:=underlying87
 a23:=isAgg87
 z23:=sizeOf87
 v23:=zeroValue87
 t26:=underlying9
 a26:=isAgg9
 z26:=sizeOf9
 v26:=zeroValue9
 t27:=underlying303
 a27:=isAgg303
 z27:=sizeOf303
 v27:=zeroValue303
 t28:=underlying304
 a28:=isAgg304
 z28:=sizeOf304
 v28:=zeroValue304
 t33:=underlying242
 a33:=isAgg242
 z33:=sizeOf242
 v33:=zeroValue242 }
def Vs:Go.Shelf.Ren:=⟨λ| 6=>213|8=>267|9=>268|11=>309|13=>311|12=>310|23=>344|24=>345|14=>335|15=>336|16=>337|17=>338|18=>339|19=>340|20=>341|21=>342|22=>343|25=>368|26=>369|27=>370|28=>371|29=>372|30=>373|31=>387|n=>n,λ| 26=>9|28=>304|24=>238|0=>0|3=>3|37=>310|48=>120|50=>26|4=>4|40=>433|39=>432|45=>160|5=>5|9=>9|51=>458|55=>461|57=>472|58=>473|33=>242|n=>n,λ| n=>n⟩
theorem afg:Go.Proofs.SlLaysZ.n6 prog Vs:= {
 mixed:=by kernel_rfl
 f6:=⟨Tryz.f213.name,by decide,func213.trans (congrArg some (by kernel_rfl))⟩
 f8:=⟨Tryz.f267.name,by decide,func267.trans (congrArg some (by kernel_rfl))⟩
 f11:=⟨Tryz.f309.name,by decide,func309.trans (congrArg some (by kernel_rfl))⟩
 t0:=underlying0
 a0:=isAgg0
 z0:=sizeOf0
 v0:=zeroValue0
 t24:=underlying238
 a24:=isAgg238
 z24:=sizeOf238
 v24:=zeroValue238
 t26:=underlying9
 a26:=isAgg9
 z26:=sizeOf9
 v26:=zeroValue9
 t28:=underlying304
 a28:=isAgg304
 z28:=sizeOf304
 v28:=zeroValue304
 i26:=by kernel_rfl }
def afh:Go.Shelf.Ren:=⟨λ| 6=>268|8=>311|9=>310|19=>344|20=>345|21=>335|22=>336|23=>337|24=>338|25=>339|26=>340|27=>341|28=>342|29=>343|36=>368|31=>369|32=>370|37=>371|38=>372|39=>373|41=>387|n=>n,λ| 27=>238|29=>9|3=>3|32=>310|26=>238|0=>0|44=>120|46=>26|4=>4|36=>433|35=>432|41=>160|5=>5|9=>9|53=>458|57=>461|63=>472|64=>473|n=>n,λ| n=>n⟩
theorem R5:Go.Proofs.SlLaysM.n6 prog afh:= {
 mixed:=by kernel_rfl
 f6:=⟨Tryz.f268.name,by decide,func268.trans (congrArg some (by kernel_rfl))⟩
 f8:=func311.trans (congrArg some (by kernel_rfl))
 f9:=⟨Tryz.f310.name,by decide,func310.trans (congrArg some (by kernel_rfl))⟩
 f19:=func344.trans (congrArg some (by kernel_rfl))
 f20:=func345.trans (congrArg some (by kernel_rfl))
 f21:=⟨Tryz.f335.name,by decide,func335.trans (congrArg some (by kernel_rfl))⟩
 f22:=⟨Tryz.f336.name,by decide,func336.trans (congrArg some (by kernel_rfl))⟩
 f23:=⟨Tryz.f337.name,by decide,func337.trans (congrArg some (by kernel_rfl))⟩
 f24:=⟨Tryz.f338.name,by decide,func338.trans (congrArg some (by kernel_rfl))⟩
 f25:=⟨Tryz.f339.name,by decide,func339.trans (congrArg some (by kernel_rfl))⟩
 f26:=⟨Tryz.f340.name,by decide,func340.trans (congrArg some (by kernel_rfl))⟩
 f27:=⟨Tryz.f341.name,by decide,func341.trans (congrArg some (by kernel_rfl))⟩
 f28:=⟨Tryz.f342.name,by decide,func342.trans (congrArg some (by kernel_rfl))⟩
 f29:=⟨Tryz.f343.name,by decide,func343.trans (congrArg some (by kernel_rfl))⟩
 f31:=func369.trans (congrArg some (by kernel_rfl))
 f32:=func370.trans (congrArg some (by kernel_rfl))
 f36:=⟨Tryz.f368.name,by decide,func368.trans (congrArg some (by kernel_rfl))⟩
 f37:=⟨Tryz.f371.name,by decide,func371.trans (congrArg some (by kernel_rfl))⟩
 f38:=⟨Tryz.f372.name,by decide,func372.trans (congrArg some (by kernel_rfl))⟩
 f39:=⟨Tryz.f373.name,by decide,func373.trans (congrArg some (by kernel_rfl))⟩
 f41:=⟨Tryz.f387.name,by decide,func387.trans (congrArg some (by kernel_rfl))⟩
 t0:=underlying0
 a0:=isAgg0
 z0:=sizeOf0
 v0:=zeroValue0
 t3:=underlying3
 a3:=isAgg3
 z3:=sizeOf3
 v3:=zeroValue3
 t4:=underlying4
 a4:=isAgg4
 z4:=sizeOf4
 v4:=zeroValue4
 t5:=underlying5
 a5:=isAgg5
 z5:=sizeOf5
 v5:=zeroValue5
 t9:=underlying9
 a9:=isAgg9
 z9:=sizeOf9
 v9:=zeroValue9
 t26:=underlying238
 a26:=isAgg238
 z26:=sizeOf238
 v26:=zeroValue238
 t27:=underlying238
 a27:=isAgg238
 z27:=sizeOf238
 v27:=zeroValue238
 t29:=underlying9
 a29:=isAgg9
 z29:=sizeOf9
 v29:=zeroValue9
 t32:=underlying310
 a32:=isAgg310
 z32:=sizeOf310
 v32:=zeroValue310
 t35:=underlying432
 a35:=isAgg432
 z35:=sizeOf432
 v35:=zeroValue432
 t36:=underlying433
 a36:=isAgg433
 z36:=sizeOf433
 v36:=zeroValue433
 t41:=underlying160
 a41:=isAgg160
 z41:=sizeOf160
 v41:=zeroValue160
 t44:=underlying120
 a44:=isAgg120
 z44:=sizeOf120
 v44:=zeroValue120
 t46:=underlying26
 a46:=isAgg26
 z46:=sizeOf26
 v46:=zeroValue26
 t53:=underlying458
 a53:=isAgg458
 z53:=sizeOf458
 v53:=zeroValue458
 t57:=underlying461
 a57:=isAgg461
 z57:=sizeOf461
 v57:=zeroValue461
 t63:=underlying472
 a63:=isAgg472
 z63:=sizeOf472
 v63:=zeroValue472
 t64:=underlying473
 a64:=isAgg473
 z64:=sizeOf473
 v64:=zeroValue473 }
theorem afi(m:Nat):AnyZ.SortsIn prog Vs Fence.wide m:=
 ⟨λblk off cap ss W hH hblk hsz=>callsIn_wide.2 (AnyM.slices_Sort_string R5 blk off cap ss W hH hblk hsz),
  λp cap W=>callsIn_wide.2 (AnyM.slices_Sort_string_none R5 p cap W)⟩
theorem afj(mb:Option Nat)(W:World):CallsIn Fence.wide 5 prog 214 #[.map mb] W λe w'=>e= .returned (.func (.func 269) #[] #[.pointer (some ⟨W.heap.size,0,none⟩)])/\w'=W.alloc (.cells #[.map mb] 87):=
 AnyZ.keys_in dc Fence.wide 5 trivial rfl mb W
theorem afk{H:Type}(b nn:Nat)(D0:DataW H)(R:Value->Option (DataW H×List MemPlace))(w:World)(hown:w.ownsMap prog 9 R b nn D0)(afl:Maps.size D0<=maxLen)(hbytes:Maps.size D0*16<=140737488355328):
 CallsIn Fence.wide 5 prog 213 #[.func (.func 269) #[] #[.pointer (some ⟨w.heap.size,0,none⟩)]] (w.alloc (.cells #[.map (some b)] 87)) λe w'=>∃(v:Value)(ss:List (List UInt8)),e= .returned v/\ss.Perm (strKeys D0)/\
  w'.ownsRow (w.alloc (.cells #[.map (some b)] 87)).heap.size 9 1 v ss.length ((ss.mergeSort (λx y=>decide (x<=y))).map encStr)/\(v= .slice none 0 0↔ss= [])/\Below (w.alloc (.cells #[.map (some b)] 87)).heap.size (w.alloc (.cells #[.map (some b)] 87)) w':=by
 have qX:=hown.lt;have hseq:SeqGives Fence.wide 2 prog 269 #[.pointer (some ⟨w.heap.size,0,none⟩)] encStr (λss=>ss.Perm (strKeys D0)) (Maps.size D0) (w.alloc (.cells #[.map (some b)] 87)):=
  AnyZ.keys_gives (ρ:=HL) { dc with } Fence.wide _ trivial rfl (by omega) w.heap.size b nn D0 _ (by simp) (by simp) (by
   obtain⟨es,clock,hb,afm,hs,hD⟩:=hown;exact⟨es,clock,(Below.heap_alloc _ _ b qX).trans hb,afm,hs,hD⟩)
 exact AnyZ.sorted_in afg Fence.wide 5 trivial trivial trivial trivial rfl (by omega) (afi _) (enters_of func268 (by kernel_rfl) rfl) 269 #[.pointer (some ⟨w.heap.size,0,none⟩)] trivial (enters_of func269 (by kernel_rfl) rfl) _ _ afl hbytes _ hseq
end
end Go.Proofs.YtfghplfgndppfaaGreatDoor
