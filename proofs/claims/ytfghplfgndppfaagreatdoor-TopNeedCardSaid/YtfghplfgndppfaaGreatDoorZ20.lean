/- Texts of this claim, joined: NdW1, NdW9, ClW1, ClW2, ClW3, NdO5, TpW12, TpW13, TpW14, TpW15, TpW19, TpW16, TpW17. -/
import Derived.Lib.SliceRun
import Derived.IntWalk
import Derived.Test.YtfghplfgndppfaaGreatDoorZ16
import Derived.Test.YtfghplfgndppfaaGreatDoorZ19
set_option linter.unusedVariables false
set_option linter.unusedSimpArgs false
set_option maxRecDepth 100000
set_option maxHeartbeats 8000000
namespace Go.Proofs.YtfghplfgndppfaaGreatDoor
open Go.Proofs.Tryz
section
open Go.RowKit Go.Maps
theorem adL(A:Option Addr)(n c:Nat)(l:List aC)(w:World)(hr:Rd w w.heap.size 5 A n (bl l))(hn:n<=1000000):
 Calls prog 135 #[.slice A n c] w λe w'=>∃R rc,e= .returned (.slice R n rc)/\ej w' w.heap.size R n rc l/\aoV w w':=by
 go_enter func135,ntmps135
 go_wp2_with (at_builtin;refine iF _ AO (fC _ w.heap.size _ _) hr (CI _) (by omega) (by omega) (by omega) rfl rfl rfl rfl ?_;intro v5 ai dN eh om;obtain⟨bZ,dC,rfl⟩:=eL dN)
 go_ret;rw[dV,gY] at dN;exact⟨bZ,dC,by simp,dN,(aoV.refl w).grown eh (λg hg=>by cases hg)⟩
section
variable{B:Nat}{p:Sp}{d:bA}{D:aV}{K:aD}{w:World}
theorem eS.cells(H:eS B p d D K w):w.cell? ⟨p.gs,0,none⟩=some (.pointer (some ⟨p.h.g,0,none⟩))/\w.cell? ⟨p.gs,1,none⟩=some (.pointer (some ⟨p.aT,0,none⟩))/\w.cell? ⟨p.gs,2,none⟩=some (.pointer (some ⟨p.gl,0,none⟩))/\w.cell? ⟨p.gs,3,none⟩=some (.pointer (some ⟨p.dX,0,none⟩))/\w.cell? ⟨p.gs,5,none⟩=some (.slice p.S d.bI.length p.sc)/\w.cell? ⟨p.gs,10,none⟩=some (.bool false):=
 ⟨aoW H.st 0,aoW H.st 1,aoW H.st 2,aoW H.st 3,aoW H.st 5,aoW H.st 10⟩
theorem adM(H:eS B p d D K w)(hn:d.bI.length<=1000000):
 Calls prog 84 #[.pointer (some ⟨p.gs,0,none⟩)] w λe w'=>∃R rc,e= .returned (.slice R d.bI.length rc)/\ej w' w.heap.size R d.bI.length rc d.bI/\aoV w w':=by
 obtain⟨-,-,-,-,c5,-⟩:=H.cells;have cO:=aoU (adL p.S d.bI.length p.sc d.bI w H.im.rd hn);clear H hn;go_enter func84,ntmps84
 go_wp2_with fail;refine cO.out.mono ?_;rintro e w1⟨R,rc,rfl,ho,hu⟩;go_wp2_with fail;go_ret;exact⟨R,rc,rfl,ho,hu⟩
theorem adN(H:eS B p d D K w)(hn:d.bI.length<=1000000)(s:Int64):
 Calls prog 81 #[.pointer (some ⟨p.gs,0,none⟩),.int .i64 s.toInt] w λe w'=>∃R m,e= .returned (.slice R m m)/\m<=d.bI.length/\(∃rc,ej w' w.heap.size R m rc (rq d.bI s))/\aoV w w':=by
 obtain⟨-,-,-,-,c5,-⟩:=H.cells;have cO:=aoU (Ze p.S d.bI.length p.sc d.bI s w H.im.rd hn);clear H hn;go_enter func81,ntmps81
 go_wp2_with fail;refine cO.out.mono ?_;rintro e w1⟨R,m,rfl,hm,ho,hu⟩;go_wp2_with fail;go_ret;exact⟨R,m,rfl,hm,ho,hu⟩
end
theorem ZD(gs:Nat)(cs:Array Value)(w:World)(hb:w.heap[gs]?=some (.cells cs 168 (0,0)))(u:Value)(z:Int)(c5:cs[5]?=some u)(gF:cs[6]?=some (.int .i64 z))(S:Option Addr)(n c:Nat):
 Calls prog 106 #[.pointer (some ⟨gs,0,none⟩),.slice S n c] w λe w'=>e= .returned (.tuple #[])/\w'.heap[gs]?=some (.cells ((cs.setIfInBounds 5 (.slice S n c)).setIfInBounds 6 (.int .i64 n)) 168 (0,0))/\V.af (λk=>k=gs) w w':=by
 have fM:=(aoW hb 5).trans c5;have f5:=ay hb 5;have bC:=bM w gs 5 (.slice S n c) _ _ hb;have hks:V.af (λk=>k=gs) w (w.setCell ⟨gs,5,none⟩ (.slice S n c)):=aoZ _ _ gs 5 _ (V.af.refl _ _);clear hb;go_enter func106,ntmps106
 go_wp2_with fail;generalize w.setCell ⟨gs,5,none⟩ (.slice S n c)=w1 at *;have tH:w1.cell? ⟨gs,6,none⟩=some (.int .i64 z):=(aoW bC 6).trans (by rw[pZ (by decide)];exact gF);refine(RA gs 6 z (n:Int) w1 tH (ay bC 6)).mono ?_;rintro e w2⟨rfl,h2⟩;have RD:=bM w1 gs 6 (.int .i64 n) _ _ bC;have ZE:V.af (λk=>k=gs) w1 (w1.setCell ⟨gs,6,none⟩ (.int .i64 n)):=aoZ _ _ gs 6 _ (V.af.refl _ _);rw[<- h2] at RD ZE;have dg:=aoU RD;clear h2 RD bC tH fM;go_wp2_with fail
 exact bodyPost_end (kV rfl _ _ _) rfl ⟨rfl,dg.out,ci hks ZE⟩
theorem adO{B:Nat}{p:Sp}{d:bA}{D D':aV}{K:aD}{w:World}(H:eS B p d D K w)(hA:∀k,ek p d k->¬K k)(hok:dx D)(cn:D.calls<=1000000000)(hD:ld D dK=(D',0)):
 Calls prog 131 #[.pointer (some ⟨p.gs,0,none⟩)] w λe w'=>e= .returned (.int .i64 0)/\∃h',eS B { p with h:=h' } d D' K w'/\V.af (λk=>aJ p.h k\/k=p.gl) w w'/\(∀k,aJ h' k->aJ p.h k\/w.heap.size<=k)/\h'.g=p.h.g:=by
 obtain⟨-,-,c2,-,-,zF⟩:=H.cells;have dg:=aoU (ZC H.dk H.am H.nf.2.2 hok cn (by decide));have dr:=aoU H;have iT:=aoU hD;have iw:=aoU hA;clear H hok cn hD hA;go_enter func131,ntmps131
 go_wp2_with fail;refine dg.out.mono ?_;rintro e w1⟨h',rfl,jX,pF,ht⟩;rw[iT.out] at jX|-;rw[show(((0:Nat):Int))=0 from rfl];have aS:=dr.out.ML iw.out ht jX (by rw[ht.g];exact pF) rfl rfl rfl (λh=>h);have dz:=aoU aS;clear aS jX pF dg;go_wp2_with fail;go_ret;exact⟨rfl,h',dz.out,ht.kept,ht.aJ,ht.g⟩
section
variable{B:Nat}{p:Sp}{d:bA}{D D' eN:aV}{K:aD}{w:World}
theorem adP(H:eS B p d D K w):Calls prog 117 #[.pointer (some ⟨p.aT,0,none⟩)] w λe w'=>e= .returned (.bool false)/\w'=w:=by
 have c12:w.cell? ⟨p.aT,12,none⟩=some (.bool false):=aoW H.mn 12;clear H;go_enter func117,ntmps117
 go_wp2_with fail;go_ret;exact⟨rfl,rfl⟩
def xf(B:Nat)(p:Sp)(d:bA)(eN:aV)(K:aD)(w:World)(m:oZ)(e:Ending)(w':World):Prop:=
 e= .returned (.int .i64 0)/\∃h' F' nJ,eS B { p with h:=h',F:=F',fq:=nJ } { d with ao:=jM d.ao m,mn:=d.mn++kF m,ne:=d.ne+1 } eN K w'/\V.af (λk=>aJ p.h k\/k=p.aT) w w'/\(∀k,aJ h' k->aJ p.h k\/w.heap.size<=k)/\h'.g=p.h.g
theorem xf.up{B:Nat}{p:Sp}{d:bA}{eN:aV}{K:aD}{w0 w w':World}{m:oZ}{e:Ending}(hu:aoV w0 w)(h:xf B p d eN K w m e w'):xf B p d eN K w0 m e w':=by
 obtain⟨h1,h',F',nJ,h2,h3,h4,h5⟩:=h;exact⟨h1,h',F',nJ,h2,ci (V.af.co hu) h3,λk hk=>(h4 k hk).imp_right (λh=>bQ hu.size h),h5⟩
theorem adQ(H:eS B p d D K w)(uz:∀k,ek p d k->¬K k)(ig:∀k,K k->k<w.heap.size)(m:oZ)(hm:qC m)(hme:qC d.ao)(hok:dx D)(cn:D.calls<=1000000000)(hD:ia D cT (kF m)=(D',0))(ry:ld D' cT=(eN,0))(gW:dx D')(vz:D'.calls<=1000000000)(hne:d.ne<=1000000):
 Calls prog 71 #[.pointer (some ⟨p.gs,0,none⟩),.agg #[.slice none 0 0,.slice none 0 0,.int .i64 0,.int .u64 m.aM,.int .u64 m.ce,.int .u64 m.a,.int .u64 m.le]] w λe w'=>xf B p d eN K w m e w':=by
 obtain⟨wa,cM⟩:=bB (w.alloc (.cells #[.slice none 0 0,.slice none 0 0,.int .i64 0,.int .u64 m.aM,.int .u64 m.ce,.int .u64 m.a,.int .u64 m.le] 174))
 have aQ:aoV w wa:=by rw[cM];exact(aoV.refl w).alloc _
 have aL:wa.heap[w.heap.size]?=some (.cells #[.slice none 0 0,.slice none 0 0,.int .i64 0,.int .u64 m.aM,.int .u64 m.ce,.int .u64 m.a,.int .u64 m.le] 174 (0,0)):=by rw[cM];exact bp w _
 have Ha:=H.up ig aQ;have ZF:¬aJ p.h w.heap.size:=Ha.dk.nf aL (by decide) (by decide) (by decide) (by decide) (by decide);have ZG:w.heap.size≠p.aT:=by
  intro e;rw[e] at aL;exact absurd (cS aL Ha.mn) (by decide)
 have ZH:p.gs≠p.aT:=Ha.ne.1;have hcell:∀W,V.af (λk=>aJ p.h k\/k=p.aT) wa W->W.cell? ⟨p.gs,1,none⟩=some (.pointer (some ⟨p.aT,0,none⟩))/\W.cell? ⟨w.heap.size,0,none⟩=some (.slice none 0 0)/\W.cell? ⟨w.heap.size,1,none⟩=some (.slice none 0 0)/\W.cell? ⟨w.heap.size,2,none⟩=some (.int .i64 0)/\W.cell? ⟨w.heap.size,3,none⟩=some (.int .u64 m.aM)/\W.cell? ⟨w.heap.size,4,none⟩=some (.int .u64 m.ce)/\W.cell? ⟨w.heap.size,5,none⟩=some (.int .u64 m.a)/\W.cell? ⟨w.heap.size,6,none⟩=some (.int .u64 m.le):=λW fI=>by
  have e1:=cL fI Ha.st (λh=>h.elim Ha.nf.1 ZH);have e2:=cL fI aL (λh=>h.elim ZF ZG);exact⟨aoW e1 1,aoW e2 0,aoW e2 1,aoW e2 2,aoW e2 3,aoW e2 4,aoW e2 5,aoW e2 6⟩
 have zG:=aoU (λW (hW:aoV wa W)=>acT (Ha.up (λk hk=>cg (ig k hk) aQ.size) hW) uz (λk hk=>cg (ig k hk) (bQ aQ.size hW.size)) m hm hme hok cn hD ry gW vz hne);have jK:=aoU cM;have cB:=aoU hcell;clear cM hcell ZF ZG ZH aL H Ha hm hme hok cn hD ry gW vz hne;go_enter func71,ntmps71
 go_upto_region 1 with fail
 rw[<- jK.out];apply V.iE (λi vs W=>V.af (λk=>aJ p.h k\/k=p.aT) wa W/\(i=0->aoV wa W)/\(i=1->xf B p d eN K wa m (.returned (.int .i64 0)) W)) (by kernel_rfl) (by kernel_rfl) (λvs=>⟨V.af.co (aoV.drew (aoV.refl wa)),λ_=>aoV.drew (aoV.refl wa),λe=>absurd e (by decide)⟩)
 .intro aF aoX;iterate 5 (apply V.az.ok;(· intro i vs ai hS;obtain⟨d0,d1,d2,d3,d4,d5,d6,d7⟩:=cB.out ai hS.1;clear hS;go_simp;(try with_reducible rfl));(· rfl);simp only[au,Nat.reduceAdd])
  apply V.az.call (.int .i64 0);rfl
  .intro vs ag hS cY ah;obtain⟨j1,j2,-⟩:=hS;have bh:=aoU (zG.out ag (j2 rfl));have I':=aoU (j2 rfl);clear j2;go_simp;refine bh.out.mono ?_;intro e ai hp;have hp2:xf B p d eN K wa m e ai:=xf.up I'.out hp;obtain rfl:=hp2.1;obtain⟨-,h',F',nJ,-,hkk,-⟩:=id hp2;exact ah.out _ ⟨hkk,λe=>absurd e (by decide),λ_=>hp2⟩
  simp only[au,Nat.reduceAdd];iterate 1 (apply V.az.ok;(· intro i vs ai hS;clear hS;go_simp;(try with_reducible rfl));(· rfl);simp only[au,Nat.reduceAdd])
  apply V.az.fin;intro vs ag hS;obtain⟨k1,-,dL⟩:=hS;have hp:=dL rfl;clear dL;have ZI:xf B p d eN K w m (.returned (.int .i64 0)) ag:=hp.up aQ;obtain⟨-,h',F',nJ,ZJ,-⟩:=id hp;have c9:ag.cell? ⟨p.gs,1,none⟩=some (.pointer (some ⟨p.aT,0,none⟩)):=(cB.out ag k1).1;have gD:=aoU (adP ZJ);have QR:=aoU ZI;refine aoX.out _ _ ?_;clear aoX hp ZI ZJ k1 zG cB
  (try dsimp only)
  go_wp2_with fail;refine gD.out.mono ?_;rintro e je⟨rfl,rfl⟩;go_wp2_with fail;go_ret;exact QR.out
 .kernel_rfl
theorem adR(H:eS B p d D K w)(uz:∀k,ek p d k->¬K k)(ig:∀k,K k->k<w.heap.size)(m:oZ)(hm:qC m)(hme:qC d.ao)(hz:(m.aM=0->d.ao.aM=0)/\(m.ce=0->d.ao.ce=0)/\(m.a=0->d.ao.a=0)/\(m.le=0->d.ao.le=0))(hok:dx D)(cn:D.calls<=1000000000)(hD:ia D cT (kF m)=(D',0))(ry:ld D' cT=(eN,0))(gW:dx D')(vz:D'.calls<=1000000000)(hne:d.ne<=1000000):
 Calls prog 45 #[.pointer (some ⟨p.gs,0,none⟩),.agg #[.int .u64 m.aM,.int .u64 m.ce,.int .u64 m.a,.int .u64 m.le]] w λe w'=>xf B p d eN K w m e w':=by
 obtain⟨wa,cM⟩:=bB (w.alloc (.cells #[.int .u64 m.aM,.int .u64 m.ce,.int .u64 m.a,.int .u64 m.le] 97))
 have aQ:aoV w wa:=by rw[cM];exact(aoV.refl w).alloc _
 have aL:wa.heap[w.heap.size]?=some (.cells #[.int .u64 m.aM,.int .u64 m.ce,.int .u64 m.a,.int .u64 m.le] 97 (0,0)):=by rw[cM];exact bp w _
 have Ha:=H.up ig aQ;have zF:=(Ha.cells).2.2.2.2.2;rw[cM] at zF;have eT:=aoU (Fv Ha (λk hk=>cg (ig k hk) aQ.size));have zG:=aoU (λW (hW:aoV wa W)=>adQ (Ha.up (λk hk=>cg (ig k hk) aQ.size) hW) uz (λk hk=>cg (ig k hk) (bQ aQ.size hW.size)) m hm hme hok cn hD ry gW vz hne);have jK:=aoU cM;have jh:=aoU hz;have ZK:=aoU hm;clear cM H hm hme hok cn hD ry gW vz hne hz;go_enter func45,ntmps45
 go_upto_region 3 with fail
 rw[<- jK.out];go_wp2_with fail;refine eT.out.mono ?_;rintro e w1⟨rfl,hu1⟩;have zw:=aH hu1 aL;obtain⟨wb,cN⟩:=bB (w1.alloc (.cells #[.int .u64 0,.int .u64 0,.int .u64 0,.int .u64 0] 97))
 have aX:aoV w1 wb:=by rw[cN];exact(aoV.refl w1).alloc _
 have hy:wb.heap[w1.heap.size]?=some (.cells #[.int .u64 0,.int .u64 0,.int .u64 0,.int .u64 0] 97 (0,0)):=by rw[cN];exact bp w1 _
 have zx:=aH aX zw;have amZ:w.heap.size<w1.heap.size:=by have:=hu1.size;have:=aQ.size;exact cg (aB aL) hu1.size
 have iD:=aoU cN;clear cN zw aL;go_upto_region 4 with (first
  |(
   with_reducible show wpList _ _ _ (⟨none,.store 97 _ _,_,_,_,none⟩::_) _ _
   rw[<- iD.out];go_loud (refine nW rfl 97 _ _ rfl (g:=w1.heap.size) (cells:= #[.int .u64 d.ao.aM,.int .u64 d.ao.ce,.int .u64 d.ao.a,.int .u64 d.ao.le]) (by kernel_rfl) (by kernel_rfl) hy (by kernel_rfl) rfl (by simp[Value.oneCell']) ?_)
   intro dY hgd dF))
 have RF:=cL dF zx (by show¬w.heap.size=w1.heap.size;omega);have ao':aoV wa dY:=gy.up (hu1.trans aX) dF (by exact hu1.size);have am0:w1.heap.size<dY.heap.size:=aB hgd;obtain⟨a0,a1,a2,a3⟩:=qb RF;obtain⟨b0,b1,b2,b3⟩:=qb hgd;have adS:=aoU RF;have M1:=aoU hgd;clear zx hy aX RF hgd eT iD zF dF
 obtain⟨ag,M2⟩:=bB (dY.alloc (.cells #[.int .u64 m.aM,.int .u64 d.ao.aM,.int .u64 m.ce,.int .u64 d.ao.ce,.int .u64 m.a,.int .u64 d.ao.a,.int .u64 m.le,.int .u64 d.ao.le] 169))
 have ot:aoV dY ag:=by rw[M2];exact(aoV.refl dY).alloc _
 have ZL:ag.heap[dY.heap.size]?=some (.cells #[.int .u64 m.aM,.int .u64 d.ao.aM,.int .u64 m.ce,.int .u64 d.ao.ce,.int .u64 m.a,.int .u64 d.ao.a,.int .u64 m.le,.int .u64 d.ao.le] 169 (0,0)):=by rw[M2];exact bp dY _
 have adT:=aoU M2;clear M2;go_upto_region 5 with fail
 rw[<- adT.out];have hmo:=ZK.out;have ZM:=jh.out;have hce:∀W,aoV ag W->∀k,k<4->∃x y:Nat,W.cell? ⟨dY.heap.size,k*2,none⟩=some (.int .u64 x)/\W.cell? ⟨dY.heap.size,k*2+1,none⟩=some (.int .u64 y)/\x<=281474976710656/\(x=0->y=0):=λW hW k hk=>by
  have e:=aH hW ZL;obtain⟨o1,o2,oW,xg⟩:=hmo;obtain⟨iS,z2,z3,z4⟩:=ZM;rcases k with _|_|_|_|k
  .exact⟨m.aM,d.ao.aM,aoW e 0,aoW e 1,o1,iS⟩
  .exact⟨m.ce,d.ao.ce,aoW e 2,aoW e 3,o2,z2⟩
  .exact⟨m.a,d.ao.a,aoW e 4,aoW e 5,oW,z3⟩
  .exact⟨m.le,d.ao.le,aoW e 6,aoW e 7,xg,z4⟩
  .omega
 have adU:=aoU hce;have ZN:=aoU (ao'.trans ot);have Jc:=aoU ot;clear hce hmo ZM ZL ot a0 a1 a2 a3 b0 b1 b2 b3 M1 ZK jh;generalize dY.heap.size=g8 at *;go_loopw[36] (λi wr=>∃k:Nat,i= .int .i64 k/\k<=4/\aoV ag wr) (λi _=>4-(intOf i).toNat)
 case atStart=>exact⟨0,rfl,by omega,aoV.refl ag⟩
 case round=>
  obtain⟨k,rfl,hk,hu⟩:=hrel;by_cases iy:k<4
  .obtain⟨x,y,q0,q1,hx,hxy⟩:=adU.out wr hu k iy;have am1:decide ((281474976710656:Int)<(x:Int))=false:=by rw[iO];omega
   have hal:aoV wr (wr.alloc (.cells #[.int .u64 x,.int .u64 y] 169)):=(aoV.refl wr).alloc _;have iW:=bp wr (.cells #[.int .u64 x,.int .u64 y] 169);have pd:=aoW iW 0;have r1:=aoW iW 1;have aq:=hu.trans hal;clear iW hal;by_cases hx0:x=0
   .obtain rfl:=hxy hx0;subst hx0;go_wp2_with fail;exact⟨⟨k+1,by rw[Int.natCast_succ],by omega,aq⟩,by simp only[intOf];omega⟩
   .have hx1:((x:Int)==0)=false:=by simp;omega
    go_wp2_with fail;exact⟨⟨k+1,by rw[Int.natCast_succ],by omega,aq⟩,by simp only[intOf];omega⟩
  .have Iz:k=4:=by omega
   have e:=aH (Jc.out.trans hu) adS.out;obtain⟨a0,a1,a2,a3⟩:=qb e;have jo:=aoU (zG.out wr (ZN.out.trans hu));have bV:=aQ.trans (ZN.out.trans hu);clear e;subst Iz;go_wp2_with fail;refine jo.out.mono ?_;intro e je hp;have hp2:xf B p d eN K w m e je:=hp.up bV;obtain rfl:=hp.1;have adV:=aoU hp2;clear hp hp2;go_wp2_with fail;go_ret;exact adV.out
end
structure RG(l:List fy)(i:Nat)(K X aA Z:aD)(w:World):Prop where
 iff:∀k,X k↔(aA k\/Z k)
 ap:∀k,aA k->¬Z k
 lt:∀k,Z k->k<w.heap.size
 put:∀{P':fy}{K' cA:aD}{w':World},P' K' cA w'->aO K aA w K' cA w'->cy K' cA w'->bF (l.set i P') K' (λk=>cA k\/Z k) w'/\aO K X w K' (λk=>cA k\/Z k) w'/\cy K' (λk=>cA k\/Z k) w'
theorem bF.part{B i:Nat}{P:fy}{l:List fy}{K X:aD}{w:World}(hl:∀P∈l,bH B P)(H:bF l K X w)(hA:cy K X w)(hi:l[i]?=some P):
 ∃aA Z:aD,P K aA w/\cy K aA w/\RG l i K X aA Z w:=by
 obtain⟨aA,Z,h1,hp⟩:=bF.at_ hl H hA hi;exact⟨aA,Z,h1,hp.sub hA,hp.iff,hp.ap,hp.lt,λh2 hs Fh=>⟨hp.put h2 hs,hp.Db hs,hp.jA hA hs Fh⟩⟩
theorem cy.same{K X X':aD}{w w':World}(hA:cy K X w)(s:aO K X w K X' w'):cy K X' w':=
 ⟨λk hk hK=>(s.aJ k hk).elim (λh=>hA.ap k h hK) (λh=>by have:=hA.lt k hK;omega),λk hk=>cg (hA.lt k hk) s.kept.size⟩
theorem o0.other{B:Nat}{p:Sp}{d:bA}(u:Bool)(now:Nat)(bE:zm)(du:List dT):o0 B p { d with up:=u,now:=now,bE:=bE,jobs:=du } =o0 B p d:=by
 funext K X w
 apply propext;constructor
 .rintro⟨H,hx⟩;exact⟨⟨H.dk,H.st,H.mn,H.am,H.ao,H.im,H.bs,H.cp⟩,hx⟩
 .rintro⟨H,hx⟩;exact⟨⟨H.dk,H.st,H.mn,H.am,H.ao,H.im,H.bs,H.cp⟩,hx⟩
section
variable{B gn:Nat}{p:Sp}{d:bA}{D:aV}{K:aD}{w:World}{nr:Array Value}
theorem ZO(hnb:w.heap[gn]?=some (.cells nr 153 (0,0)))(fj:nr[1]?=some (.pointer (some ⟨p.gs,0,none⟩)))(H:eS B p d D K w)(hK:∀k,K k->k<w.heap.size):
 Calls prog 36 #[.pointer (some ⟨gn,0,none⟩)] w λe w'=>e= .returned (.agg #[.int .u64 d.ao.aM,.int .u64 d.ao.ce,.int .u64 d.ao.a,.int .u64 d.ao.le])/\aoV w w':=by
 have aQ:aoV w (w.alloc (.cells #[.int .u64 0,.int .u64 0,.int .u64 0,.int .u64 0] 97)):=(aoV.refl w).alloc _;have aL:=bp w (.cells #[.int .u64 0,.int .u64 0,.int .u64 0,.int .u64 0] 97);have c1:=(aoW (aH aQ hnb) 1).trans fj;have eT:=aoU (Fv (H.up hK aQ) (λk hk=>cg (hK k hk) aQ.size));clear H hK hnb fj;go_enter func36,ntmps36
 go_wp2_with fail;refine eT.out.mono ?_;rintro e w1⟨rfl,hu1⟩;have fe:=aH hu1 aL;have hu:=aQ.trans hu1;clear c1 eT aL;generalize eH:w.heap.size=g2 at *;have eG:w.heap.size<=g2:=Nat.le_of_eq eH;clear eH;go_wp2_with (first
  |(
   with_reducible show wpList _ _ _ (⟨none,.store 97 _ _,_,_,_,none⟩::_) _ _
   go_loud (refine nW rfl 97 _ _ rfl (g:=g2) (cells:= #[.int .u64 d.ao.aM,.int .u64 d.ao.ce,.int .u64 d.ao.a,.int .u64 d.ao.le]) (by kernel_rfl) (by kernel_rfl) fe (by kernel_rfl) rfl (by simp[Value.oneCell']) ?_)
   intro dY hgd dF))
 have ao':=gy.up hu dF eG;obtain⟨e0,e1,e2,bG⟩:=qb hgd;refine dm (v:= .agg #[.int .u64 d.ao.aM,.int .u64 d.ao.ce,.int .u64 d.ao.a,.int .u64 d.ao.le]) (by simp[results,results36,go_sem,e0,e1,e2,bG]) rfl ?_;exact⟨rfl,ao'⟩
theorem adW(hnb:w.heap[gn]?=some (.cells nr 153 (0,0)))(fj:nr[1]?=some (.pointer (some ⟨p.gs,0,none⟩))):
 Calls prog 44 #[.pointer (some ⟨gn,0,none⟩)] w λe w'=>e= .returned (.pointer (some ⟨p.gs,0,none⟩))/\w'=w:=by
 have c1:=(aoW hnb 1).trans fj;clear hnb fj;go_enter func44,ntmps44
 go_wp2_with fail;go_ret;exact⟨rfl,rfl⟩
end
theorem RH:jm.length<=1000:=by
 unfold jm;rw[AJ];unfold cU;simp
section
variable{B i aG:Nat}{q:dU}{d:bA}{K X:aD}{w:World}
theorem ZP(aR ls:Nat):(ez B i aG q d).set 3 (kj B q.gk i aR ls)=ez B i aG q { d with bE:=⟨aR,ls⟩ } :=by
 have e:o0 B q.sp { d with bE:=⟨aR,ls⟩ } =o0 B q.sp d:=o0.other d.up d.now ⟨aR,ls⟩ d.jobs;unfold ez;rw[e];rfl
theorem ZQ(p':Sp)(d':bA)(h1:p'.h.g=q.sp.h.g)(h2:p'.gs=q.sp.gs)(h3:d'.now=d.now)(h4:d'.bE=d.bE)(h5:d'.jobs=d.jobs):(ez B i aG q d).set 1 (o0 B p' d')=ez B i aG { q with sp:=p' } d':=by
 unfold ez ox zA;dsimp only;rw[h1,h2,h3,h4,h5];rfl
structure adX(i aG:Nat)(q:dU)(d:bA)(w:World):Prop where
 pl:w.heap[q.aE]?=some (.cells (ox q) 66 (0,0))
 nd:w.heap[q.gn]?=some (.cells (zA q i aG d) 153 (0,0))
theorem zH(H:bF (ez B i aG q d) K X w):adX i aG q d w:=by
 obtain⟨aA,uB,h1,⟨cD,uC,-,⟨lI,vf,h3,-⟩,-⟩,-⟩:=H;exact⟨h1.1,h3.1⟩
theorem bH.ez:bH B (bF (ez B i aG q d)):=bH.sf mo
end
theorem o0.saved{B:Nat}{p:Sp}{d:bA}{eN:aV}{K X:aD}{w w':World}{m:oZ}{e:Ending}(hX:∀k,X k↔ek p d k)(S:xf B p d eN K w m e w')(hD:eN=pQ (qy d (jM d.ao m)))(hm:jM d.ao m=m):
 ∃p':Sp,p'.h.g=p.h.g/\p'.gs=p.gs/\o0 B p' (qy d m) K (ek p' (qy d m)) w'/\aO K X w K (ek p' (qy d m)) w':=by
 obtain⟨-,h',F',nJ,H,hk,hf,hg⟩:=S;rw[hm] at H hD;subst hD;refine⟨{ p with h:=h',F:=F',fq:=nJ },hg,rfl,⟨⟨H.dk,H.st,H.mn,H.am,H.ao,H.im,H.bs,H.cp⟩,λk=>Iff.rfl⟩,⟨eQ hk (λk h=>(hX k).2 (h.imp id (λh=> .inr (.inl h)))),λk h=>?_,λ_ h=>h,λ_ h=> .inl h⟩⟩;rcases h with h|h
 .exact(hf k h).imp (λh=>(hX k).2 (.inl h)) id
 .exact .inl ((hX k).2 (.inr h))
def M3(B i aG:Nat)(q:dU)(d:bA)(K X:aD)(w:World)(w':World):Prop:=∃p' K' X',bF (ez B i aG { q with sp:=p' } d) K' X' w'/\aO K X w K' X' w'/\cy K' X' w'
section
variable{B i aG:Nat}{q:dU}{d:bA}{K X:aD}{w:World}(H:bF (ez B i aG q d) K X w)(hA:cy K X w)
include H hA
theorem RI{aR ls:Nat}{aA Z:aD}{w':World}(P:RG (ez B i aG q d) 3 K X aA Z w)(h:kj B q.gk i aR ls K aA w')(s:aO K aA w K aA w')(a:cy K aA w):∃X',bF (ez B i aG q { d with bE:=⟨aR,ls⟩ }) K X' w'/\aO K X w K X' w'/\cy K X' w':=by
 have _u:=H;have am2:=hA;obtain⟨h2,h3,h4⟩:=P.put h s (a.same s);rw[ZP] at h2;exact⟨_,h2,h3,h4⟩
theorem adY(hi:i<=6)(hls:d.bE.ls<=d.bE.aR)(su:d.bE.aR<=10000000):
 Calls prog 41 #[.pointer (some ⟨q.gk,0,none⟩)] w λe w'=>e= .returned (.tuple #[.int .u64 0,.int .i64 19])/\∃X',bF (ez B i aG q d) K X' w'/\aO K X w K X' w'/\cy K X' w':=by
 obtain⟨aA,vC,c1,a1,oC⟩:=bF.part mo H hA (i:=3) rfl;have Dt:Bh i d.bE.aR d.bE.ls=(0,19,d.bE.aR):=by
  unfold Bh;rw[if_neg (by omega),if_pos (by omega)]
 have h:=Yy c1 hi (by omega);rw[Dt] at h;refine h.mono ?_;rintro e w1⟨rfl,k1,s1⟩;exact⟨rfl,RI H hA oC k1 s1 a1⟩
theorem adZ(hi:i<=6)(hls:d.bE.aR<d.bE.ls)(su:d.bE.aR<=10000000):
 Calls prog 41 #[.pointer (some ⟨q.gk,0,none⟩)] w λe w'=>e= .returned (.tuple #[.int .u64 (((d.bE.aR+1)*8+i:Nat):Int),.int .i64 0])/\∃X',bF (ez B i aG q { d with bE:=⟨d.bE.aR+1,d.bE.ls⟩ }) K X' w'/\aO K X w K X' w'/\cy K X' w':=by
 obtain⟨aA,vC,c1,a1,oC⟩:=bF.part mo H hA (i:=3) rfl;have Dt:Bh i d.bE.aR d.bE.ls=((d.bE.aR+1)*8+i,0,d.bE.aR+1):=by
  unfold Bh;rw[if_neg (by omega),if_neg (by omega)]
 have h:=Yy c1 hi (by omega);rw[Dt] at h;refine h.mono ?_;rintro e w1⟨rfl,k1,s1⟩;exact⟨rfl,RI H hA oC k1 s1 a1⟩
theorem ad0:Calls prog 42 #[.pointer (some ⟨q.gk,0,none⟩)] w λe w'=>e= .returned (.int .u64 d.bE.aR)/\w'=w:=by
 obtain⟨aA,vC,c1,a1,oC⟩:=bF.part mo H hA (i:=3) rfl;exact apX c1
theorem ad1:Calls prog 43 #[.pointer (some ⟨q.gk,0,none⟩)] w λe w'=>e= .returned (.int .u64 d.bE.ls)/\w'=w:=by
 obtain⟨aA,vC,c1,a1,oC⟩:=bF.part mo H hA (i:=3) rfl;exact acn c1
theorem ad2(t2:Nat)(h1:d.bE.ls<t2)(h2:t2<=1099511627776):
 Calls prog 46 #[.pointer (some ⟨q.gk,0,none⟩),.int .u64 t2] w λe w'=>e= .returned (.bool true)/\∃X',bF (ez B i aG q { d with bE:=⟨d.bE.aR,t2⟩ }) K X' w'/\aO K X w K X' w'/\cy K X' w':=by
 obtain⟨aA,vC,c1,a1,oC⟩:=bF.part mo H hA (i:=3) rfl;refine(aco c1 t2 h1 h2).mono ?_;rintro e w1⟨rfl,k1,s1⟩;exact⟨rfl,RI H hA oC k1 s1 a1⟩
theorem ad3:Calls prog 36 #[.pointer (some ⟨q.gn,0,none⟩)] w λe w'=>e= .returned (.agg #[.int .u64 d.ao.aM,.int .u64 d.ao.ce,.int .u64 d.ao.a,.int .u64 d.ao.le])/\aoV w w':=by
 obtain⟨aA,vC,c1,a1,oC⟩:=bF.part mo H hA (i:=1) rfl;exact ZO (zH H).nd rfl c1.1 hA.lt
theorem ad4:Calls prog 44 #[.pointer (some ⟨q.gn,0,none⟩)] w λe w'=>e= .returned (.pointer (some ⟨q.sp.gs,0,none⟩))/\w'=w:=
 have _u:=hA;adW (zH H).nd rfl
theorem ad5(m:oZ)(hm:qC m)(hme:qC d.ao)(hz:(m.aM=0->d.ao.aM=0)/\(m.ce=0->d.ao.ce=0)/\(m.a=0->d.ao.a=0)/\(m.le=0->d.ao.le=0))(yo:d.am.length<=100000)(hmn:d.mn.length<=50000)(hmb:(kF m).length<=50000)(hne:d.ne<=1000000)(hcs:d.cs<=1000000):
 Calls prog 45 #[.pointer (some ⟨q.sp.gs,0,none⟩),.agg #[.int .u64 m.aM,.int .u64 m.ce,.int .u64 m.a,.int .u64 m.le]] w λe w'=>e= .returned (.int .i64 0)/\M3 B i aG q (qy d m) K X w w':=by
 obtain⟨aA,vC,c1,a1,oC⟩:=bF.part mo H hA (i:=1) rfl;have hu:jM d.ao m=m:=by
  obtain⟨iS,z2,z3,z4⟩:=hz;have e:∀x y:Nat,(y=0->x=0)->cK x y=y:=λx y h=>by
   unfold cK;split
   .rename_i h0;rw[h h0,h0]
   .rfl
  unfold jM;rw[e _ _ iS,e _ _ z2,e _ _ z3,e _ _ z4]
 have hcb:jm.length<=1000:=RH;have hD:ia (pQ d) cT (kF m)=(fg d.am d.am.length (d.mn++kF m) d.mn.length jm (d.cs+1),0):=j9 _ _ _ _ _ _ _ (by omega) (by omega) hcb;have ry:ld (fg d.am d.am.length (d.mn++kF m) d.mn.length jm (d.cs+1)) cT=(fg d.am d.am.length (d.mn++kF m) (d.mn++kF m).length jm (d.cs+1+1),0):=K8 _ _ _ _ _ _;have hok:dx (pQ d):=AC _ _ _ _ _ _ (by omega) (aZ _) (by omega) (aZ _) (by omega)
 have gW:dx (fg d.am d.am.length (d.mn++kF m) d.mn.length jm (d.cs+1)):=AC _ _ _ _ _ _ (by omega) (aZ _) (by rw[dG];omega) (by rw[dG];omega) (by omega);refine(adR c1.1 (λk hk=>a1.ap k ((c1.2 k).2 hk)) a1.lt m hm hme hz hok (by show d.cs<=_;omega) hD ry gW (by show d.cs+1<=_;omega) hne).mono ?_;intro e w1 S;obtain rfl:=S.1;obtain⟨p',e1,e2,h2,s2⟩:=o0.saved c1.2 S (by rw[hu];rfl) hu;obtain⟨h3,h4,h5⟩:=oC.put h2 s2 (a1.same s2);rw[ZQ (d:=d) p' (qy d m) e1 e2 rfl rfl rfl] at h3;exact⟨rfl,p',K,_,h3,h4,h5⟩
end
theorem ad6(aR ls le:Nat)(h:ls<=aR)(h2:aR<=1000000)(hle:le=aR+16):max (aR:Int) (ls:Int)=(aR:Int)/\min ((aR:Int)+16) 1099511627776=(le:Int)/\max aR ls+16=le/\¬aR<ls/\le<=281474976710656/\le≠0/\aR<=10000000/\le<=1099511627776/\aR<le/\ls<le:=by
 refine⟨?_,?_,?_,?_,?_,?_,?_,?_,?_,?_⟩ <;>omega
theorem ad7(aR:Nat)(h2:aR<=1000000):IntKind.u64.wrap ((aR:Int)+16)=(aR:Int)+16:=IntWalk.u64_in _ (by omega)
theorem ad8{B sv aG:Nat}{q:dU}{d:bA}{K X:aD}{w:World}(H:bF (ez B sv aG q d) K X w)(hA:cy K X w)(hi:sv<=6)(hls:d.bE.ls<=d.bE.aR)(su:d.bE.aR<=1000000)(hme:qC d.ao)(yo:d.am.length<=100000)(hmn:d.mn.length<=50000)(hmb:(kF { d.ao with le:=d.bE.aR+16 }).length<=50000)(hne:d.ne<=1000000)(hcs:d.cs<=1000000):
 Calls prog 23 #[.pointer (some ⟨q.aE,0,none⟩)] w λe w'=>e= .returned (.tuple #[.int .u64 ((lL sv d).2:Int),.int .i64 0])/\M3 B sv aG q (lL sv d).1 K X w w':=by
 obtain⟨le,hle⟩:=bB (d.bE.aR+16)
 rw[<- hle] at hmb;obtain⟨td,hmin,ZR,hlt,ZS,hle0,ZT,hle2,ad9,ad'⟩:=ad6 _ _ _ hls su hle;have hwr:=ad7 _ su;obtain⟨m,hm⟩:∃m:oZ,m= { d.ao with le:=le } :=⟨_,rfl⟩
 rw[<- hm] at hmb;have hV:lL sv d=({ qy d m with bE:=⟨d.bE.aR+1,le⟩ },(d.bE.aR+1)*8+sv):=by
  unfold lL;rw[if_neg hlt];simp only[ZR,hm]
 rw[hV];dsimp only;have iM:qC m:=by rw[hm];obtain⟨a1,a2,a3,a4⟩:=hme;exact⟨a1,a2,a3,ZS⟩
 have ZU:(m.aM=0->d.ao.aM=0)/\(m.ce=0->d.ao.ce=0)/\(m.a=0->d.ao.a=0)/\(m.le=0->d.ao.le=0):=by rw[hm];exact⟨id,id,id,λh=>absurd h hle0⟩
 have va:(#[.int .u64 m.aM,.int .u64 m.ce,.int .u64 m.a,.int .u64 m.le]:Array Value)= #[.int .u64 d.ao.aM,.int .u64 d.ao.ce,.int .u64 d.ao.a,.int .u64 le]:=by rw[hm]
 have dz:=zH H;have ff:=aoU (adY H hA hi hls ZT);have p2:w.cell? ⟨q.aE,2,none⟩=some (.pointer (some ⟨q.gk,0,none⟩)):=aoW dz.pl 2;have Lw:=aoU hle;have Br:=aoU hwr;have eT:=aoU hm;have aea:=aoU td;have RJ:=aoU hmin;have xh:=aoU va;have aeb:=aoU ZU;clear hV hle hwr ZR ZS hle0 hm td hmin va H hA dz ZU;go_enter func23,ntmps23
 go_wp2_with fail;refine ff.out.mono ?_;rintro e w1⟨rfl,aA,H1,qE,fX⟩;have M6:=zH H1;have p1:w1.cell? ⟨q.aE,1,none⟩=some (.pointer (some ⟨q.gn,0,none⟩)):=aoW M6.pl 1;have qF:=aoU (ad3 H1 fX);have zI:=aoU H1;have Dw:=aoU fX;have vD:=aoU qE;clear ff p2 H1 fX qE M6;go_wp2_with fail;refine qF.out.mono ?_;rintro e w2⟨rfl,aq⟩;obtain⟨wb,cN⟩:=bB (w2.alloc (.cells #[.int .u64 0,.int .u64 0,.int .u64 0,.int .u64 0] 97))
 have aX:aoV w2 wb:=by rw[cN];exact(aoV.refl w2).alloc _
 have hy:wb.heap[w2.heap.size]?=some (.cells #[.int .u64 0,.int .u64 0,.int .u64 0,.int .u64 0] 97 (0,0)):=by rw[cN];exact bp w2 _
 have iD:=aoU cN;clear cN qF p1;go_upto_region 5 with (first
  |(
   with_reducible show wpList _ _ _ (⟨none,.store 97 _ _,_,_,_,none⟩::_) _ _
   rw[<- iD.out];go_loud (refine nW rfl 97 _ _ rfl (g:=w2.heap.size) (cells:= #[.int .u64 d.ao.aM,.int .u64 d.ao.ce,.int .u64 d.ao.a,.int .u64 d.ao.le]) (by kernel_rfl) (by kernel_rfl) hy (by kernel_rfl) rfl (by simp[Value.oneCell']) ?_)
   intro w3 hgd dF))
 have bV:aoV w1 w3:=gy.up (aq.trans aX) dF aq.size;have fe:w1.heap.size<=w2.heap.size:=aq.size;have H3:=bH.ez.up zI.out Dw.out bV;have rl:=Dw.out.up bV;generalize w2.heap.size=b at *;have vE:¬aA b:=λh=>absurd (bH.ez.lt zI.out h).2 (Nat.not_lt.2 fe)
 have vF:¬K b:=λh=>absurd (Dw.out.lt b h) (Nat.not_lt.2 fe)
 have jN:∀W,V.af (λk=>k=b) w3 W->bF (ez B sv aG q d) K aA W:=λW hK=>bH.ez.keep H3 hK (λk hk e=>vE (e▸hk)) (λk hk e=>vF (e▸hk))
 have Rk:∀W,V.af (λk=>k=b) w3 W->cy K aA W:=λW hK=>⟨rl.ap,λk hk=>cg (rl.lt k hk) hK.size⟩
 have hcell:∀W,V.af (λk=>k=b) w3 W->W.cell? ⟨q.aE,2,none⟩=some (.pointer (some ⟨q.gk,0,none⟩)):=λW hK=>aoW (zH (jN W hK)).pl 2
 have pT:=aoU jN;have RL:=aoU Rk;have cB:=aoU hcell;have FI:=aoU bV;clear jN Rk hcell hy aX aq iD dF H3 rl
 apply V.iE (λi vs W=>V.af (λk=>k=b) w3 W/\(i=0->W.heap[b]?=some (.cells #[.int .u64 d.ao.aM,.int .u64 d.ao.ce,.int .u64 d.ao.a,.int .u64 d.ao.le] 97 (0,0)))/\(i=1->W.heap[b]?=some (.cells #[.int .u64 d.ao.aM,.int .u64 d.ao.ce,.int .u64 d.ao.a,.int .u64 d.ao.le] 97 (0,0)))/\(i=2->W.heap[b]?=some (.cells #[.int .u64 d.ao.aM,.int .u64 d.ao.ce,.int .u64 d.ao.a,.int .u64 d.ao.le] 97 (0,0)))/\(i=3->W.heap[b]?=some (.cells #[.int .u64 d.ao.aM,.int .u64 d.ao.ce,.int .u64 d.ao.a,.int .u64 le] 97 (0,0)))) (by kernel_rfl) (by kernel_rfl) (λvs=>⟨V.af.co (aoV.drew (aoV.refl w3)),λ_=>aH (aoV.drew (aoV.refl w3)) hgd,λe=>absurd e (by decide),λe=>absurd e (by decide),λe=>absurd e (by decide)⟩)
 .intro aF aoX;iterate 4 (apply V.az.ok;(· intro i vs ai hS;have d0:=cB.out ai hS.1;clear hS;go_simp;(try with_reducible rfl));(· rfl);simp only[au,Nat.reduceAdd])
  apply V.az.call (.int .u64 d.bE.aR);rfl
  .intro vs ag hS cY ah;obtain⟨k1,k2,-⟩:=hS;have ph:=k2 rfl;have bh:=aoU (ad0 (pT.out ag k1) (RL.out ag k1));clear k2;go_simp;refine bh.out.mono ?_;rintro e ai⟨rfl,rfl⟩;exact ah.out _ ⟨k1,λe=>absurd e (by decide),λ_=>ph,λe=>absurd e (by decide),λe=>absurd e (by decide)⟩
  simp only[au,Nat.reduceAdd];iterate 4 (apply V.az.ok;(· intro i vs ai hS;have d0:=cB.out ai hS.1;clear hS;go_simp;(try with_reducible rfl));(· rfl);simp only[au,Nat.reduceAdd])
  apply V.az.call (.int .u64 d.bE.ls);rfl
  .intro vs ag hS cY ah;obtain⟨k1,-,k2,-⟩:=hS;have ph:=k2 rfl;have bh:=aoU (ad1 (pT.out ag k1) (RL.out ag k1));clear k2;go_simp;refine bh.out.mono ?_;rintro e ai⟨rfl,rfl⟩;exact ah.out _ ⟨k1,λe=>absurd e (by decide),λe=>absurd e (by decide),λ_=>ph,λe=>absurd e (by decide)⟩
  simp only[au,Nat.reduceAdd];apply V.az.ok (v:= .int .u64 d.bE.aR)
  .intro i vs ai hS;have td:=aea.out;clear hS;go_simp
  .rfl
  simp only[au,Nat.reduceAdd];apply V.az.ok (v:= .int .u64 ((d.bE.aR:Int)+16))
  .intro i vs ai hS;have hwr:=Br.out;clear hS;go_simp
  .rfl
  simp only[au,Nat.reduceAdd];apply V.az.ok (v:= .int .u64 le)
  .intro i vs ai hS;have ac7:=RJ.out;clear hS;go_simp
  .rfl
  simp only[au,Nat.reduceAdd];iterate 1 (apply V.az.ok;(· intro i vs ai hS;clear hS;go_simp;(try with_reducible rfl));(· rfl);simp only[au,Nat.reduceAdd])
  apply V.az.call undef;rfl
  .intro vs ag hS cY ah;obtain⟨k1,-,-,k2,-⟩:=hS;have ph:=k2 rfl;have aK:=aoU (ah.out (ag.setCell ⟨b,3,none⟩ (.int .u64 le)) ⟨ci k1 (aoZ _ _ b 3 _ (V.af.refl _ _)),λe=>absurd e (by decide),λe=>absurd e (by decide),λe=>absurd e (by decide),λ_=>bM ag b 3 (.int .u64 le) _ _ ph⟩);have e1:=aoW ph 3;have f1:=ay ph 3;clear ah k2 ph k1
   (try dsimp only at aK|-)
   go_simp;exact aK.out
  simp only[au,Nat.reduceAdd];apply V.az.fin;intro vs w4 hS;obtain⟨cJ,-,-,-,hb4⟩:=hS;have apm:=hb4 rfl;refine aoX.out _ _ ?_;clear aoX hb4
  (try dsimp only)
  have H4:=pT.out w4 cJ;have RM:=RL.out w4 cJ;have mF:aO K X w K aA w4:=by
   refine vD.out.trans ⟨⟨cJ.os.trans FI.out.os,cJ.tape.trans FI.out.tape,cJ.output.trans FI.out.output,bQ FI.out.size cJ.size,λk hk hx=>(cJ.block k (cg hk FI.out.size) (λe=>?_)).trans (FI.out.block k hk)⟩,λk hk=> .inl hk,λ_ h=>h,λ_ h=> .inl h⟩;have e:k=b:=e;exact absurd hk (by rw[e];exact Nat.not_lt.2 fe)
  have RN:∀(W:World)(p':Sp)(d':bA)(K' X':aD),bF (ez B sv aG { q with sp:=p' } d') K' X' W->W.heap[b]?=some (.cells #[.int .u64 d.ao.aM,.int .u64 d.ao.ce,.int .u64 d.ao.a,.int .u64 le] 97 (0,0))->W.cell? ⟨q.aE,1,none⟩=some (.pointer (some ⟨q.gn,0,none⟩))/\W.cell? ⟨q.aE,2,none⟩=some (.pointer (some ⟨q.gk,0,none⟩))/\W.cell? ⟨b,0,none⟩=some (.int .u64 d.ao.aM)/\W.cell? ⟨b,1,none⟩=some (.int .u64 d.ao.ce)/\W.cell? ⟨b,2,none⟩=some (.int .u64 d.ao.a)/\W.cell? ⟨b,3,none⟩=some (.int .u64 le):=λW p' d' K' X' hW hb=>by
   have e1:=(zH hW).pl;exact⟨aoW e1 1,aoW e1 2,aoW hb 0,aoW hb 1,aoW hb 2,aoW hb 3⟩
  have xi:∀W,aoV w4 W->bF (ez B sv aG q d) K aA W/\cy K aA W:=λW hW=>⟨bH.ez.up H4 RM hW,RM.up hW⟩
  have hG:=aoU (λW hW=>ad4 (xi W hW).1 (xi W hW).2);have oM:=aoU (λW hW=>ad5 (xi W hW).1 (xi W hW).2 m iM hme aeb.out yo hmn hmb hne hcs);have ZV:∀W,aoV w4 W->W.cell? ⟨q.aE,1,none⟩=some (.pointer (some ⟨q.gn,0,none⟩))/\W.cell? ⟨q.aE,2,none⟩=some (.pointer (some ⟨q.gk,0,none⟩))/\W.cell? ⟨b,0,none⟩=some (.int .u64 d.ao.aM)/\W.cell? ⟨b,1,none⟩=some (.int .u64 d.ao.ce)/\W.cell? ⟨b,2,none⟩=some (.int .u64 d.ao.a)/\W.cell? ⟨b,3,none⟩=some (.int .u64 le):=λW hW=>RN W q.sp d K aA (xi W hW).1 (aH hW apm)
  have ZW:=aoU ZV;have M7:=aoU RN;have rz:=aoU apm;have tI:=aoU mF;rw[xh.out] at oM;clear ZV RN apm mF H4 RM xi hgd cJ yo hmn hmb hne hcs hme;go_upto_region 6 with fail
  apply V.iE (λi vs W=>(W.cell? ⟨q.aE,1,none⟩=some (.pointer (some ⟨q.gn,0,none⟩))/\W.cell? ⟨q.aE,2,none⟩=some (.pointer (some ⟨q.gk,0,none⟩))/\W.cell? ⟨b,0,none⟩=some (.int .u64 d.ao.aM)/\W.cell? ⟨b,1,none⟩=some (.int .u64 d.ao.ce)/\W.cell? ⟨b,2,none⟩=some (.int .u64 d.ao.a)/\W.cell? ⟨b,3,none⟩=some (.int .u64 le))/\(i=0->aoV w4 W)/\(i=1->aoV w4 W)/\(i=2->M3 B sv aG q (qy d m) K aA w4 W/\W.heap[b]?=some (.cells #[.int .u64 d.ao.aM,.int .u64 d.ao.ce,.int .u64 d.ao.a,.int .u64 le] 97 (0,0)))) (by kernel_rfl) (by kernel_rfl) (λvs=>⟨ZW.out _ (aoV.drew (aoV.refl w4)),λ_=>aoV.drew (aoV.refl w4),λe=>absurd e (by decide),λe=>absurd e (by decide)⟩)
  .intro aF aoX;iterate 4 (apply V.az.ok;(· intro i vs ai hS;obtain⟨d0,d1,d2,d3,d4,d5⟩:=hS.1;clear hS;go_simp;(try with_reducible rfl));(· rfl);simp only[au,Nat.reduceAdd])
   apply V.az.call (.pointer (some ⟨q.sp.gs,0,none⟩));rfl
   .intro vs ag hS cY ah;obtain⟨k1,k2,-⟩:=hS;have ph:=k2 rfl;have bh:=aoU (hG.out ag ph);clear k2;go_simp;refine bh.out.mono ?_;rintro e ai⟨rfl,rfl⟩;exact ah.out _ ⟨k1,λe=>absurd e (by decide),λ_=>ph,λe=>absurd e (by decide)⟩
   simp only[au,Nat.reduceAdd];iterate 1 (apply V.az.ok;(· intro i vs ai hS;obtain⟨d0,d1,d2,d3,d4,d5⟩:=hS.1;clear hS;go_simp;(try with_reducible rfl));(· rfl);simp only[au,Nat.reduceAdd])
   apply V.az.call (.int .i64 0);rfl
   .intro vs ag hS cY ah;obtain⟨k1,-,k2,-⟩:=hS;have ph:=k2 rfl;have bh:=aoU (oM.out ag ph);have jY:=aoU ph;clear k2 ph k1;go_simp;refine bh.out.mono ?_;rintro e ai⟨rfl,hp⟩;obtain⟨p',K',X',h1,h2,h3⟩:=hp;have md:ai.heap[b]?=some (.cells #[.int .u64 d.ao.aM,.int .u64 d.ao.ce,.int .u64 d.ao.a,.int .u64 le] 97 (0,0)):=cL h2.kept (aH jY.out rz.out) vE;exact ah.out _ ⟨M7.out ai p' _ K' X' h1 md,λe=>absurd e (by decide),λe=>absurd e (by decide),λ_=>⟨⟨p',K',X',h1,(aO.up jY.out).trans h2,h3⟩,md⟩⟩
   simp only[au,Nat.reduceAdd];iterate 1 (apply V.az.ok;(· intro i vs ai hS;clear hS;go_simp;(try with_reducible rfl));(· rfl);simp only[au,Nat.reduceAdd])
   apply V.az.fin;intro vs ai hS;obtain⟨-,-,-,hh⟩:=hS;obtain⟨⟨p',qG,ep,H5,mG,kC⟩,md⟩:=hh rfl;have ZX:=tI.out.trans mG;have c5:=M7.out ai p' _ qG ep H5 md;have aec:¬qG b/\¬ep b:=⟨λh=>(mG.shut b h).elim vF (λh=>absurd (aB rz.out) (Nat.not_lt.2 h)),λh=>(mG.aJ b h).elim vE (λh=>absurd (aB rz.out) (Nat.not_lt.2 h))⟩
   refine aoX.out _ _ ?_;clear aoX hh ZW hG oM rz mG
   (try dsimp only)
   have xj:∀W,aoV ai W->bF (ez B sv aG { q with sp:=p' } (qy d m)) qG ep W/\cy qG ep W:=λW hW=>⟨bH.ez.up H5 kC hW,kC.up hW⟩
   have sw:=aoU (λW hW=>ad2 (xj W hW).1 (xj W hW).2 le ad' hle2);have nT:∀W,aoV ai W->W.cell? ⟨q.aE,1,none⟩=some (.pointer (some ⟨q.gn,0,none⟩))/\W.cell? ⟨q.aE,2,none⟩=some (.pointer (some ⟨q.gk,0,none⟩))/\W.cell? ⟨b,0,none⟩=some (.int .u64 d.ao.aM)/\W.cell? ⟨b,1,none⟩=some (.int .u64 d.ao.ce)/\W.cell? ⟨b,2,none⟩=some (.int .u64 d.ao.a)/\W.cell? ⟨b,3,none⟩=some (.int .u64 le):=λW hW=>M7.out W p' _ qG ep (xj W hW).1 (aH hW md)
   have ZY:=aoU nT;have aed:=aoU ZX;have M8:=aoU c5;have rA:=aoU md;clear nT ZX c5 md xj;go_upto_region 9 with fail
   apply V.iE (λi vs W=>(W.cell? ⟨q.aE,1,none⟩=some (.pointer (some ⟨q.gn,0,none⟩))/\W.cell? ⟨q.aE,2,none⟩=some (.pointer (some ⟨q.gk,0,none⟩))/\W.cell? ⟨b,0,none⟩=some (.int .u64 d.ao.aM)/\W.cell? ⟨b,1,none⟩=some (.int .u64 d.ao.ce)/\W.cell? ⟨b,2,none⟩=some (.int .u64 d.ao.a)/\W.cell? ⟨b,3,none⟩=some (.int .u64 le))/\(i=0->aoV ai W)/\(i=1->∃X',bF (ez B sv aG { q with sp:=p' } { qy d m with bE:=⟨d.bE.aR,le⟩ }) qG X' W/\aO qG ep ai qG X' W/\cy qG X' W)) (by kernel_rfl) (by kernel_rfl) (λvs=>⟨ZY.out _ (aoV.drew (aoV.refl ai)),λ_=>aoV.drew (aoV.refl ai),λe=>absurd e (by decide)⟩)
   .intro aF aoX;iterate 6 (apply V.az.ok;(· intro i vs ai hS;obtain⟨d0,d1,d2,d3,d4,d5⟩:=hS.1;clear hS;go_simp;(try with_reducible rfl));(· rfl);simp only[au,Nat.reduceAdd])
    apply V.az.call (.bool true);rfl
    .intro vs ag hS cY ah;obtain⟨k1,k2,-⟩:=hS;have ph:=k2 rfl;have bh:=aoU (sw.out ag ph);have jY:=aoU ph;clear k2 ph k1;go_simp;refine bh.out.mono ?_;rintro e cH⟨rfl,X',h1,h2,h3⟩;exact ah.out _ ⟨M7.out cH p' _ qG X' h1 (cL h2.kept (aH jY.out rA.out) aec.2),λe=>absurd e (by decide),λ_=>⟨X',h1,(aO.up jY.out).trans h2,h3⟩⟩
    simp only[au,Nat.reduceAdd];apply V.az.fin;intro vs cH hS;obtain⟨gF,-,hh⟩:=hS;obtain⟨RO,rO,xZ,uD⟩:=hh rfl;obtain⟨-,am3,-⟩:=gF;have FJ:=aoU (adZ rO uD hi ad9 ZT);have Z6:=aoU (aed.out.trans xZ);refine aoX.out _ _ ?_;clear aoX hh ZY sw xZ rO uD
    (try dsimp only)
    go_wp2_with fail;refine FJ.out.mono ?_;rintro e w7⟨rfl,M9,mH,rB,Z7⟩;have aK:=aoU (show M3 B sv aG q { qy d m with bE:=⟨d.bE.aR+1,le⟩ } K X w w7 from⟨p',qG,M9,mH,Z6.out.trans rB,Z7⟩);clear mH rB Z7 FJ Z6;go_wp2_with fail;refine dm (v:= .tuple #[.int .u64 (((d.bE.aR+1)*8+sv:Nat):Int),.int .i64 0]) (by simp[results,results23,go_sem]) rfl ?_;exact⟨rfl,aK.out⟩
   .kernel_rfl
  .kernel_rfl
 .kernel_rfl
theorem aee(w:World):Calls prog 104 #[.slice none 0 0] w λe w'=>e= .returned (.slice none 0 0)/\w'=w:=by
 go_enter func104,ntmps104
 go_wp2_with fail;go_loopw[3,8] (λo i wr=>o= .slice none 0 0/\i= .int .i64 0/\wr=w) (λ_ i _=>0)
 case atStart=>exact⟨rfl,rfl,rfl⟩
 case round=>
  obtain⟨rfl,rfl,rfl⟩:=hrel;go_wp2_with fail;go_ret;exact⟨rfl,rfl⟩
theorem aef(w:World):Calls prog 162 #[.slice none 0 0] w λe w'=>e= .returned (.slice none 0 0)/\w'=w:=by
 have am4:∀(w:World)(a:Option Addr)(n c n' c':Nat),(binOp .eql 204 (.slice a n c) (.slice none n' c')).run prog w= .ok (.bool a.isNone) w:=λw a n c n' c'=>Lib.run_eql_slice_nil w _ _ a n c n' c' underlying204
 go_enter func162,ntmps162
 go_wp2_with fail;go_ret;exact⟨rfl,rfl⟩
theorem aeg(w:World):Calls prog 164 #[.slice none 0 0] w λe w'=>e= .returned (.slice none 0 0)/\w'=w:=by
 go_enter func164,ntmps164
 go_wp2_with fail;go_ret;exact⟨rfl,rfl⟩
theorem aeh(w:World):Calls prog 103 #[.slice none 0 0] w λe w'=>e= .returned (.slice none 0 0)/\w'=w:=by
 have bh:=aoU (aef w);have bU:=aoU (aeg w);go_enter func103,ntmps103
 go_wp2_with fail;refine bh.out.mono ?_;rintro e w1⟨rfl,rfl⟩;clear bh;go_upto_region 3 with fail
 go_loopw[3] (λo wr=>o= .slice none 0 0/\wr=w1) (λ_ _=>0)
 case atStart=>exact⟨rfl,rfl⟩
 case round=>
  obtain⟨rfl,rfl⟩:=hrel;go_wp2_with fail;go_loopw[5,14] (λo i ai=>o= .int .i64 (-1)/\i= .int .i64 0/\ai=wr) (λ_ i _=>0)
  case atStart=>exact⟨rfl,rfl,rfl⟩
  case round=>
   obtain⟨rfl,rfl,rfl⟩:=hrel;go_wp2_with fail;refine bU.out.mono ?_;rintro e cH⟨rfl,rfl⟩;go_wp2_with fail;go_ret;exact⟨rfl,rfl⟩
theorem Z8:jk [] []= []:=by rfl
theorem Z':zE [] []:=⟨by rfl,λk hk=>absurd hk (Nat.not_lt_zero _)⟩
theorem aei(w:World):Calls prog 108 #[.slice none 0 0] w λe w'=>∃R,e= .returned (.slice R 0 0)/\aoV w w':=by
 have uA:=aoU (FH none 0 0 [] none 0 0 [] w Rd.empty Rd.empty (by omega) (by omega) (by omega) Z');rw[Z8] at uA;go_enter func108,ntmps108
 go_wp2_with fail;refine uA.out.mono ?_;rintro e w1⟨R,k,rfl,⟨rc,ho⟩,hu⟩;have hk:k=0:=(Rd.own ho).og;subst hk;go_wp2_with fail;go_ret;exact⟨R,rfl,hu⟩
theorem aej(w:World):Calls prog 176 #[.slice none 0 0,.int .i64 0] w λe w'=>e= .returned (.slice none 0 0)/\w'=w:=by
 go_enter func176,ntmps176
 go_wp2_with fail;go_ret;exact⟨rfl,rfl⟩
theorem aek(R:Option Addr)(c:Nat)(w:World):Calls prog 109 #[.slice R 0 c] w λe w'=>e= .returned (.slice none 0 0)/\w'=w:=by
 have M':=aoU (aej w);go_enter func109,ntmps109
 go_wp2_with fail;go_loopw[3,11] (λo i wr=>o= .int .i64 0/\i= .int .i64 0/\wr=w) (λ_ i _=>0)
 case atStart=>exact⟨rfl,rfl,rfl⟩
 case round=>
  obtain⟨rfl,rfl,rfl⟩:=hrel;go_wp2_with fail;refine M'.out.mono ?_;rintro e w1⟨rfl,rfl⟩;clear M';go_wp2_with fail;go_loopw[6,27] (λo i wr=>o= .slice none 0 0/\i= .int .i64 0/\wr=w1) (λ_ i _=>0)
  case atStart=>exact⟨rfl,rfl,rfl⟩
  case round=>
   obtain⟨rfl,rfl,rfl⟩:=hrel;go_wp2_with fail;go_ret;exact⟨rfl,rfl⟩
theorem ael(gs:Nat)(R:Option Addr)(rc aM ce a le:Nat)(w:World):Calls prog 102 #[.pointer (some ⟨gs,0,none⟩),.agg #[.int .i64 1,.slice R 0 rc,.int .u64 aM,.int .u64 ce,.int .u64 a,.int .u64 le]] w λe w'=>e= .returned (.bool true)/\aoV w w':=by
 have aQ:=(aoV.refl w).alloc (.cells #[.int .i64 1,.slice R 0 rc,.int .u64 aM,.int .u64 ce,.int .u64 a,.int .u64 le] 202);have c1:=aoW (bp w (.cells #[.int .i64 1,.slice R 0 rc,.int .u64 aM,.int .u64 ce,.int .u64 a,.int .u64 le] 202)) 1;go_enter func102,ntmps102
 go_wp2_with fail;generalize w.alloc (.cells #[.int .i64 1,.slice R 0 rc,.int .u64 aM,.int .u64 ce,.int .u64 a,.int .u64 le] 202)=wa at *;go_loopw[13] (λi wr=>i= .int .i64 0/\wr=wa) (λi _=>0)
 case atStart=>exact⟨rfl,rfl⟩
 case round=>
  obtain⟨rfl,rfl⟩:=hrel;go_wp2_with fail;go_ret;exact⟨rfl,aQ⟩
end
section
open Go.RowKit
theorem R6(v:vw):(vx v).length=2:=rfl
theorem r0(l:List vw):(yi l).length=l.length*2:=Mc vx R6 l
theorem Rd.S3{w:World}{B n:Nat}{A:Option Addr}{l:List vw}(h:Rd w B 2 A n (yi l)){k:Nat}(hk:k<n):
 ∃b o v,A=some ⟨b,o,none⟩/\b<B/\l[k]?=some v/\w.cell? ⟨b,o+k*2,none⟩=some (.int .u64 v.ce)/\w.cell? ⟨b,o+k*2+1,none⟩=some (.slice v.A v.l.length v.c):=by
 have hl:=h.1;rw[r0] at hl;obtain⟨b,o,e,hb,hc⟩:=h.2 (by omega);have bS:k<l.length:=by omega
 have got:∀j u,j<2->(vx l[k])[j]?=some u->w.cell? ⟨b,o+k*2+j,none⟩=some u:=λj u hj hu=>by
  rw[Nat.add_assoc];exact hc _ _ ((Qq vx R6 l bS hj).trans hu)
 exact⟨b,o,l[k],e,hb,dh bS,got 0 _ (by omega) rfl,got 1 _ (by omega) rfl⟩
def tQ(gs:List vw):List aC:=gs.foldl (λout v=>jk out v.l) []
theorem ah4(g n gc C:Nat)(G:Option Addr)(gs:List vw)(s:Int64)(r:Array Value)(w:World)(hb:w.heap[g]?=some (.cells r 130 (0,0)))(iK:r[4]?=some (.int .i64 s.toInt))(r16:r[16]?=some (.slice G n gc))(hr:Rd w w.heap.size 2 G n (yi gs))(hn:n<=7)(hits:∀v∈gs,Rd w w.heap.size 5 v.A v.l.length (bl v.l)/\v.l.length<=1500/\v.ce=C)(hpre:∀k (hk:k<gs.length),zE (tQ (gs.take k)) gs[k].l/\(tQ (gs.take k)).length<=100000)(hend:(tQ gs).length<=100000):
 Calls prog 412 #[.pointer (some ⟨g,0,none⟩)] w λe w'=>∃R m,e= .returned (.slice R m m)/\(∃rc,ej w' w.heap.size R m rc (rq (tQ gs) s))/\aoV w w':=by
 have eG:=aB hb;have hc:∀W,aoV w W->W.cell? ⟨g,4,none⟩=some (.int .i64 s.toInt)/\W.cell? ⟨g,16,none⟩=some (.slice G n gc):=λW hW=>by
  have h9:=aH hW hb;exact⟨(aoW h9 4).trans iK,(aoW h9 16).trans r16⟩
 have bh:=aoU hc;have hnl:n=gs.length:=by have:=hr.1;rw[r0] at this;omega
 have lz:=aoU hnl;have S2:=aoU hits;have Du:=aoU hpre;have tR:=aoU hend;obtain⟨-,N8⟩:=hc w (aoV.refl w);clear hc hb iK r16 hnl hits hpre hend;go_enter func412,ntmps412
 go_wp2_with fail;go_loopw[3,17] (λce i wr=>∃k c1:Nat,i= .int .i64 k/\ce= .int .u64 c1/\k<=n/\c1<=C/\Hid (0<k->c1=C)/\aoV w wr) (λ_ i _=>n-(intOf i).toNat)
 case atStart=>exact⟨0,0,rfl,rfl,by omega,by omega,λh=>absurd h (by omega),aoV.refl _⟩
 case round=>
  obtain⟨k,c1,rfl,rfl,hk,hc1,ah5,hu⟩:=hrel;by_cases hlt:k<n
  .have bS:k<gs.length:=by have:=lz.out;omega
   obtain⟨b,o,v,rfl,hb,hv,q0,q1⟩:=(hr.stay (aZ _) hu).S3 hlt;have uw:v∈gs:=lW hv;have hce:=(S2.out v uw).2.2;rw[hce] at q0;have td:max (c1:Int) (C:Int)=(C:Int):=by omega
   clear hv hce uw;go_wp2_with fail;exact⟨⟨k+1,C,by go_num,rfl,by omega,aZ _,λ_=>rfl,hu.alloc _⟩,by simp[intOf];omega⟩
  .obtain rfl:k=n:=by omega
   obtain⟨-,N8⟩:=bh.out wr hu;have anO:Hid (0<k->¬C<c1/\¬C<C):=λh=>⟨by omega,by omega⟩
   go_wp2_with fail;go_loopw[6,31] (λout i wr=>∃(j m:Nat)(Q:Option Addr),i= .int .i64 j/\out= .slice Q m m/\j<=k/\(∃rc,ej wr w.heap.size Q m rc (tQ (gs.take j)))/\aoV w wr) (λ_ i _=>k-(intOf i).toNat)
   case atStart=>exact⟨0,0,none,rfl,rfl,by omega,⟨0,fC _ _ _ _⟩,hu⟩
   case round=>
    obtain⟨j,m,Q,rfl,rfl,hj,⟨rc,hown⟩,aq⟩:=hrel;have hml:=hown.len;by_cases iy:j<k
    .have bS:j<gs.length:=by have:=lz.out;omega
     obtain⟨b,o,v,rfl,hb,hv,q0,q1⟩:=(hr.stay (aZ _) aq).S3 iy;have sk:gs[j]=v:=by rw[dh bS] at hv;injection hv
     have uw:v∈gs:=lW hv;obtain⟨hit,ah6,hce⟩:=S2.out v uw;obtain⟨TL,hjl⟩:=Du.out j bS;rw[sk] at TL;have e8:c1=C:=ah5.out (by omega);rw[hce,<- e8] at q0;have jF:tQ (gs.take (j+1))=jk (tQ (gs.take j)) v.l:=by
      unfold tQ;rw[lU bS,List.foldl_append,sk];rfl
     have kW:=aoU jF;have fK:decide (c1<c1)=false:=by rw[iO];omega
     have hal:aoV wr (wr.alloc (.cells #[.int .u64 c1,.slice v.A v.l.length v.c] 496)):=(aoV.refl wr).alloc _;have c7:=FH Q m m (tQ (gs.take j)) v.A v.l.length v.c v.l _ ((hown.up hal).rd) (hit.up (aq.trans hal)) (by omega) (by omega) (aZ _) TL;have ah7:=aoU c7;have ah8:=aq.size;clear hv sk uw hit ah6 hce TL hjl jF hml c7 e8;go_wp2_with fail;refine ah7.out.mono ?_;rintro e w4⟨Q4,m4,rfl,⟨wP,ts⟩,eO⟩;rw[<- kW.out] at ts;have cI:=aq.trans (hal.trans eO);have dN:=jP (base':=w.heap.size) ts (bQ ah8 hal.size);go_wp2_with fail
     exact⟨⟨j+1,m4,Q4,by go_num,rfl,by omega,⟨wP,dN⟩,cI⟩,by simp[intOf];omega⟩
    .obtain rfl:j=k:=by omega
     have htk:tQ (gs.take j)=tQ gs:=by rw[lz.out,List.take_length]
     rw[htk] at hown hml;have hend:=tR.out;obtain⟨c4,-⟩:=bh.out wr aq;have Rx:=Ze Q m m (tQ gs) s wr (hown.rd) (by omega);have ah9:=aoU Rx;clear Rx htk hml hend;go_wp2_with fail;refine ah9.out.mono ?_;rintro e w4⟨R,m4,rfl,va,⟨wP,ui⟩,eO⟩;go_wp2_with fail;go_ret;exact⟨R,m4,rfl,⟨wP,jP ui aq.size⟩,aq.trans eO⟩
def j5(r:Array Value)(o:Nat)(v0 v1 v2 v3 v4 v5 v6 zV:Value):Array Value:=(((((((r.setIfInBounds o v0).setIfInBounds (o+1) v1).setIfInBounds (o+2) v2).setIfInBounds (o+3) v3).setIfInBounds (o+4) v4).setIfInBounds (o+5) v5).setIfInBounds (o+6) v6).setIfInBounds (o+7) zV
theorem BU(r:Array Value)(o:Nat)(v0 v1 v2 v3 v4 v5 v6 zV:Value){i:Nat}(hi:i<o\/o+7<i):(j5 r o v0 v1 v2 v3 v4 v5 v6 zV)[i]?=r[i]?:=by
 unfold j5;iterate 8 rw[pZ (by omega)]
theorem J7(w:World)(g o:Nat)(r:Array Value)(v0 v1 v2 v3 v4 v5 v6 zV:Value)(t:TypeId)(h:w.heap[g]?=some (.cells r t (0,0))):
 ((((((((w.setCell ⟨g,o,none⟩ v0).setCell ⟨g,o+1,none⟩ v1).setCell ⟨g,o+2,none⟩ v2).setCell ⟨g,o+3,none⟩ v3).setCell ⟨g,o+4,none⟩ v4).setCell ⟨g,o+5,none⟩ v5).setCell ⟨g,o+6,none⟩ v6).setCell ⟨g,o+7,none⟩ zV).heap[g]?=some (.cells (j5 r o v0 v1 v2 v3 v4 v5 v6 zV) t (0,0))/\
 V.af (λk=>k=g) w ((((((((w.setCell ⟨g,o,none⟩ v0).setCell ⟨g,o+1,none⟩ v1).setCell ⟨g,o+2,none⟩ v2).setCell ⟨g,o+3,none⟩ v3).setCell ⟨g,o+4,none⟩ v4).setCell ⟨g,o+5,none⟩ v5).setCell ⟨g,o+6,none⟩ v6).setCell ⟨g,o+7,none⟩ zV):=by
 refine⟨?_,?_⟩
 .have h1:=bM _ g o v0 _ _ h;have h2:=bM _ g (o+1) v1 _ _ h1;have h3:=bM _ g (o+2) v2 _ _ h2;have h4:=bM _ g (o+3) v3 _ _ h3;have h5:=bM _ g (o+4) v4 _ _ h4;have h6:=bM _ g (o+5) v5 _ _ h5;have h7:=bM _ g (o+6) v6 _ _ h6;exact bM _ g (o+7) zV _ _ h7
 .iterate 8 apply aoZ
  exact V.af.refl _ _
theorem ap8(g c0 c1 c2:Nat)(id v e:Nat)(q:ol)(r:Array Value)(w:World)(hb:w.heap[g]?=some (.cells r 130 (0,0)))(hr:r.size=30)(he:e≠0)(r2:r[2]?=some (.int .u64 id))(r3:r[3]?=some (.int .i64 q.kind))(iK:r[4]?=some (.int .i64 q.s))(ki:r[5]?=some (.int .u64 q.t))(iV:r[6]?=some (.int .i64 q.x))(b0:w.heap[c0]?=some (.cells #[.pointer (some ⟨g,0,none⟩)] 72 (0,0)))(b1:w.heap[c1]?=some (.cells #[.int .i64 e] 23 (0,0)))(b2:w.heap[c2]?=some (.cells #[.int .u64 v] 26 (0,0))):
 Calls prog 411 #[.pointer (some ⟨c0,0,none⟩),.pointer (some ⟨c1,0,none⟩),.pointer (some ⟨c2,0,none⟩)] w λfw w'=>fw= .returned (.tuple #[])/\w'.heap[g]?=some (.cells ((j5 r 21 (.int .u64 id) (.int .i64 q.kind) (.int .i64 q.s) (.int .u64 q.t) (.int .i64 q.x) (.int .i64 e) (.int .u64 v) (.slice none 0 0)).setIfInBounds 29 (.bool true)) 130 (0,0))/\V.af (λk=>k=g) w w':=by
 have n0:c0≠g:=λh=>by subst h;exact absurd (cS b0 hb) (by decide)
 have n1:c1≠g:=λh=>by subst h;exact absurd (cS b1 hb) (by decide)
 have n2:c2≠g:=λh=>by subst h;exact absurd (cS b2 hb) (by decide)
 have hz:((e:Int)==0)=false:=by simp;omega
 have aL:∀W,V.af (λk=>k=g) w W->W.cell? ⟨c0,0,none⟩=some (.pointer (some ⟨g,0,none⟩))/\W.cell? ⟨c1,0,none⟩=some (.int .i64 e)/\W.cell? ⟨c2,0,none⟩=some (.int .u64 v):=λW hK=>
  ⟨aoW ((hK.block _ (aB b0) n0).trans b0) 0,aoW ((hK.block _ (aB b1) n1).trans b1) 0,aoW ((hK.block _ (aB b2) n2).trans b2) 0⟩
 have mK:=aoU aL;have hc:∀(W:World)(r':Array Value),W.heap[g]?=some (.cells r' 130 (0,0))->(∀i,i<21->r'[i]?=r[i]?)->W.cell? ⟨g,2,none⟩=some (.int .u64 id)/\W.cell? ⟨g,3,none⟩=some (.int .i64 q.kind)/\W.cell? ⟨g,4,none⟩=some (.int .i64 q.s)/\W.cell? ⟨g,5,none⟩=some (.int .u64 q.t)/\W.cell? ⟨g,6,none⟩=some (.int .i64 q.x):=λW r' h hi=>
  ⟨((aoW h 2).trans (hi 2 (by omega))).trans r2,((aoW h 3).trans (hi 3 (by omega))).trans r3,((aoW h 4).trans (hi 4 (by omega))).trans iK,((aoW h 5).trans (hi 5 (by omega))).trans ki,((aoW h 6).trans (hi 6 (by omega))).trans iV⟩
 have bh:=aoU hc;have fJ:=aoU hr;clear aL hc n0 n1 n2 b0 b1 b2 r2 r3 iK ki iV hr;go_enter func411,ntmps411
 go_wp2_with fail;apply V.iE (λi vs W=>V.af (λk=>k=g) w W/\(i=0->W.heap[g]?=some (.cells r 130 (0,0)))/\(i=1->W.heap[g]?=some (.cells (j5 r 21 (.int .u64 id) (.int .i64 q.kind) (.int .i64 q.s) (.int .u64 q.t) (.int .i64 q.x) (.int .i64 e) (.int .u64 v) (.slice none 0 0)) 130 (0,0)))/\∃r',W.heap[g]?=some (.cells r' 130 (0,0))/\∀i,i<21->r'[i]?=r[i]?) (by kernel_rfl) (by kernel_rfl) (λvs=>⟨V.af.co (aoV.drew (aoV.refl w)),λ_=>aH (aoV.drew (aoV.refl w)) hb,λe=>absurd e (by decide),r,aH (aoV.drew (aoV.refl w)) hb,λ_ _=>rfl⟩)
 .intro aF aoX;iterate 14 (apply V.az.ok;(· intro i vs ag hS;obtain⟨k1,-,-,r',k2,aY⟩:=hS;obtain⟨c0,c1,c2⟩:=mK.out ag k1;obtain⟨d2,d3,d4,d5,d6⟩:=bh.out ag r' k2 aY;clear k1 k2 aY;go_simp;(try with_reducible rfl));(· rfl);simp only[au,Nat.reduceAdd])
  apply V.az.call undef;rfl
  .intro vs ag hS cY ah;obtain⟨k1,k2,-,-⟩:=hS;have k2:=k2 rfl;obtain⟨bC,hks⟩:=J7 ag g 21 r (.int .u64 id) (.int .i64 q.kind) (.int .i64 q.s) (.int .u64 q.t) (.int .i64 q.x) (.int .i64 e) (.int .u64 v) (.slice none 0 0) _ k2;have aS:=ah.out _ ⟨ci k1 hks,λe=>absurd e (by decide),λ_=>bC,_,bC,λi hi=>BU _ _ _ _ _ _ _ _ _ _ (.inl hi)⟩;have aK:=aoU aS;have hr:=fJ.out;have bL:∀j,j<30->∃u,ag.cell? ⟨g,j,none⟩=some u:=λj hj=>⟨_,(aoW k2 j).trans (mV (by omega))⟩
   obtain⟨u1,e1⟩:=bL 21 (by omega);obtain⟨u2,e2⟩:=bL 22 (by omega);obtain⟨u3,bG⟩:=bL 23 (by omega);obtain⟨u4,bT⟩:=bL 24 (by omega);obtain⟨uF,dt⟩:=bL 25 (by omega);obtain⟨uG,jV⟩:=bL 26 (by omega);obtain⟨aii,kg⟩:=bL 27 (by omega);obtain⟨u8,py⟩:=bL 28 (by omega);have f1:=ay k2 21;have f2:=ay k2 22;have f3:=ay k2 23;have f4:=ay k2 24;have f5:=ay k2 25;have f6:=ay k2 26;have f7:=ay k2 27;have f8:=ay k2 28;clear ah aS bC hks bL hr k1 k2
   (try dsimp only at aK|-)
   go_simp;exact aK.out
  simp only[au,Nat.reduceAdd];apply V.az.fin;intro vs ag hS;obtain⟨k1,-,k2,-⟩:=hS;have k2:=k2 rfl;refine aoX.out _ _ ?_;clear aoX
  (try dsimp only)
  obtain⟨TM,c1',TN⟩:=mK.out ag k1;have bC:=bM ag g 29 (.bool true) _ _ k2;have hks:V.af (λk=>k=g) ag (ag.setCell ⟨g,29,none⟩ (.bool true)):=aoZ _ _ g 29 _ (V.af.refl _ _);have hr:=fJ.out;obtain⟨u1,e1⟩:∃u,ag.cell? ⟨g,29,none⟩=some u:=⟨_,((aoW k2 29).trans (BU _ _ _ _ _ _ _ _ _ _ (.inr (by omega)))).trans (mV (by omega))⟩
  have f1:=ay k2 29;have N9:=aoU bC;clear bC hr k2;go_wp2_with fail;exact bodyPost_end (kV rfl _ _ _) rfl ⟨rfl,N9.out,ci k1 hks⟩
 .kernel_rfl
theorem aij(g c0 c1 c2:Nat)(id v:Nat)(q:ol)(r:Array Value)(w:World)(hb:w.heap[g]?=some (.cells r 130 (0,0)))(hr:r.size=30)(r2:r[2]?=some (.int .u64 id))(r3:r[3]?=some (.int .i64 q.kind))(iK:r[4]?=some (.int .i64 q.s))(ki:r[5]?=some (.int .u64 q.t))(iV:r[6]?=some (.int .i64 q.x))(b0:w.heap[c0]?=some (.cells #[.pointer (some ⟨g,0,none⟩)] 72 (0,0)))(b1:w.heap[c1]?=some (.cells #[.int .i64 0] 23 (0,0)))(b2:w.heap[c2]?=some (.cells #[.int .u64 v] 26 (0,0)))(bI:List aC)(hit:∀(W:World) (r':Array Value),V.af (λk=>k=g) w W->W.heap[g]?=some (.cells r' 130 (0,0))->(∀i,i<21->r'[i]?=r[i]?)->Calls prog 412 #[.pointer (some ⟨g,0,none⟩)] W λe w'=>∃R m,e= .returned (.slice R m m)/\(∃rc,ej w' W.heap.size R m rc bI)/\aoV W w'):
 Calls prog 411 #[.pointer (some ⟨c0,0,none⟩),.pointer (some ⟨c1,0,none⟩),.pointer (some ⟨c2,0,none⟩)] w λfw w'=>fw= .returned (.tuple #[])/\∃R m rc,w'.heap[g]?=some (.cells (((j5 r 21 (.int .u64 id) (.int .i64 q.kind) (.int .i64 q.s) (.int .u64 q.t) (.int .i64 q.x) (.int .i64 0) (.int .u64 v) (.slice none 0 0)).setIfInBounds 28 (.slice R m m)).setIfInBounds 29 (.bool true)) 130 (0,0))/\ej w' w.heap.size R m rc bI/\V.af (λk=>k=g) w w':=by
 have n0:c0≠g:=λh=>by subst h;exact absurd (cS b0 hb) (by decide)
 have n1:c1≠g:=λh=>by subst h;exact absurd (cS b1 hb) (by decide)
 have n2:c2≠g:=λh=>by subst h;exact absurd (cS b2 hb) (by decide)
 have aL:∀W,V.af (λk=>k=g) w W->W.cell? ⟨c0,0,none⟩=some (.pointer (some ⟨g,0,none⟩))/\W.cell? ⟨c1,0,none⟩=some (.int .i64 0)/\W.cell? ⟨c2,0,none⟩=some (.int .u64 v):=λW hK=>
  ⟨aoW ((hK.block _ (aB b0) n0).trans b0) 0,aoW ((hK.block _ (aB b1) n1).trans b1) 0,aoW ((hK.block _ (aB b2) n2).trans b2) 0⟩
 have mK:=aoU aL;have hc:∀(W:World)(r':Array Value),W.heap[g]?=some (.cells r' 130 (0,0))->(∀i,i<21->r'[i]?=r[i]?)->W.cell? ⟨g,2,none⟩=some (.int .u64 id)/\W.cell? ⟨g,3,none⟩=some (.int .i64 q.kind)/\W.cell? ⟨g,4,none⟩=some (.int .i64 q.s)/\W.cell? ⟨g,5,none⟩=some (.int .u64 q.t)/\W.cell? ⟨g,6,none⟩=some (.int .i64 q.x):=λW r' h hi=>
  ⟨((aoW h 2).trans (hi 2 (by omega))).trans r2,((aoW h 3).trans (hi 3 (by omega))).trans r3,((aoW h 4).trans (hi 4 (by omega))).trans iK,((aoW h 5).trans (hi 5 (by omega))).trans ki,((aoW h 6).trans (hi 6 (by omega))).trans iV⟩
 have bh:=aoU hc;have fJ:=aoU hr;have zb:=aoU hit;clear hit;clear aL hc n0 n1 n2 b0 b1 b2 r2 r3 iK ki iV hr;go_enter func411,ntmps411
 go_wp2_with fail;apply V.iE (λi vs W=>V.af (λk=>k=g) w W/\(i=0->W.heap[g]?=some (.cells r 130 (0,0)))/\(i=1->W.heap[g]?=some (.cells (j5 r 21 (.int .u64 id) (.int .i64 q.kind) (.int .i64 q.s) (.int .u64 q.t) (.int .i64 q.x) (.int .i64 0) (.int .u64 v) (.slice none 0 0)) 130 (0,0)))/\∃r',W.heap[g]?=some (.cells r' 130 (0,0))/\∀i,i<21->r'[i]?=r[i]?) (by kernel_rfl) (by kernel_rfl) (λvs=>⟨V.af.co (aoV.drew (aoV.refl w)),λ_=>aH (aoV.drew (aoV.refl w)) hb,λe=>absurd e (by decide),r,aH (aoV.drew (aoV.refl w)) hb,λ_ _=>rfl⟩)
 .intro aF aoX;iterate 14 (apply V.az.ok;(· intro i vs ag hS;obtain⟨k1,-,-,r',k2,aY⟩:=hS;obtain⟨c0,c1,c2⟩:=mK.out ag k1;obtain⟨d2,d3,d4,d5,d6⟩:=bh.out ag r' k2 aY;clear k1 k2 aY;go_simp;(try with_reducible rfl));(· rfl);simp only[au,Nat.reduceAdd])
  apply V.az.call undef;rfl
  .intro vs ag hS cY ah;obtain⟨k1,k2,-,-⟩:=hS;have k2:=k2 rfl;obtain⟨bC,hks⟩:=J7 ag g 21 r (.int .u64 id) (.int .i64 q.kind) (.int .i64 q.s) (.int .u64 q.t) (.int .i64 q.x) (.int .i64 0) (.int .u64 v) (.slice none 0 0) _ k2;have aS:=ah.out _ ⟨ci k1 hks,λe=>absurd e (by decide),λ_=>bC,_,bC,λi hi=>BU _ _ _ _ _ _ _ _ _ _ (.inl hi)⟩;have aK:=aoU aS;have hr:=fJ.out;have bL:∀j,j<30->∃u,ag.cell? ⟨g,j,none⟩=some u:=λj hj=>⟨_,(aoW k2 j).trans (mV (by omega))⟩
   obtain⟨u1,e1⟩:=bL 21 (by omega);obtain⟨u2,e2⟩:=bL 22 (by omega);obtain⟨u3,bG⟩:=bL 23 (by omega);obtain⟨u4,bT⟩:=bL 24 (by omega);obtain⟨uF,dt⟩:=bL 25 (by omega);obtain⟨uG,jV⟩:=bL 26 (by omega);obtain⟨aii,kg⟩:=bL 27 (by omega);obtain⟨u8,py⟩:=bL 28 (by omega);have f1:=ay k2 21;have f2:=ay k2 22;have f3:=ay k2 23;have f4:=ay k2 24;have f5:=ay k2 25;have f6:=ay k2 26;have f7:=ay k2 27;have f8:=ay k2 28;clear ah aS bC hks bL hr k1 k2
   (try dsimp only at aK|-)
   go_simp;exact aK.out
  simp only[au,Nat.reduceAdd];apply V.az.fin;intro vs ag hS;obtain⟨k1,-,qI,-⟩:=hS;have k2:=qI rfl;clear qI;refine aoX.out _ _ ?_;clear aoX
  (try dsimp only)
  obtain⟨TM,c1',TN⟩:=mK.out ag k1;obtain⟨ra,ow⟩:=bB (j5 r 21 (.int .u64 id) (.int .i64 q.kind) (.int .i64 q.s) (.int .u64 q.t) (.int .i64 q.x) (.int .i64 0) (.int .u64 v) (.slice none 0 0))
  have N':=aoU ow;rw[<- ow] at k2;have x4:∀i,i<21->ra[i]?=r[i]?:=λi hi=>by rw[ow];exact BU _ _ _ _ _ _ _ _ _ _ (.inl hi)
  have hsz:ra.size=30:=by rw[ow,<- fJ.out];simp[j5]
  have Ng:=aoU hsz;have aik:=aoU x4;clear ow x4 hsz;go_wp2_with fail;apply V.iE (λi vs W=>V.af (λk=>k=g) ag W/\(i<=1->W.heap[g]?=some (.cells ra 130 (0,0)))/\(i=1->∃R m rc,vs 2= .slice R m m/\ej W ag.heap.size R m rc bI)/\(i=2->∃R m rc,W.heap[g]?=some (.cells (ra.setIfInBounds 28 (.slice R m m)) 130 (0,0))/\ej W ag.heap.size R m rc bI)) (by kernel_rfl) (by kernel_rfl) (λvs=>⟨V.af.co (aoV.drew (aoV.refl ag)),λ_=>aH (aoV.drew (aoV.refl ag)) k2,λe=>absurd e (by decide),λe=>absurd e (by decide)⟩)
  .intro aF aoX;iterate 2 (apply V.az.ok;(· intro i vs ai hS;obtain⟨c0,c1,c2⟩:=mK.out ai (ci k1 hS.1);clear hS;go_simp;(try with_reducible rfl));(· rfl);simp only[au,Nat.reduceAdd])
   apply V.az.cG;rfl
   .intro vs ai hS cY ah;obtain⟨j1,j2,-,-⟩:=hS;have j2:=j2 (by decide);obtain⟨c0,c1,c2⟩:=mK.out ai (ci k1 j1);have hI:=zb.out ai ra (ci k1 j1) j2 aik.out;have fS:=aoU hI;clear hI c0 c1 c2;go_simp;refine fS.out.mono ?_;rintro e cH⟨R,m,rfl,⟨rc,ho⟩,eZ⟩;exact ah.out _ _ ⟨ci j1 (V.af.co eZ),λ_=>aH eZ j2,λ_=>⟨R,m,rc,by rw[V.eV],jP ho j1.size⟩,λe=>absurd e (by decide)⟩
   simp only[au,Nat.reduceAdd];iterate 3 (apply V.az.ok;(· intro i vs ai hS;clear hS;go_simp;(try with_reducible rfl));(· rfl);simp only[au,Nat.reduceAdd])
   apply V.az.call undef;rfl
   .intro vs ai hS cY ah;obtain⟨j1,j2,dL,-⟩:=hS;have j2:=j2 (by decide);obtain⟨R,m,rc,hv,ho⟩:=dL rfl;have bC:=bM ai g 28 (.slice R m m) _ _ j2;have hks:V.af (λk=>k=g) ai (ai.setCell ⟨g,28,none⟩ (.slice R m m)):=aoZ _ _ g 28 _ (V.af.refl _ _);have aS:=ah.out _ ⟨ci j1 hks,λe=>absurd e (by decide),λe=>absurd e (by decide),λ_=>⟨R,m,rc,bC,iC ho hks (λk hk e=>by
     have e:k=g:=e;subst e;obtain⟨cs',z',h4⟩:=iL ho hk;exact absurd (cS j2 h4) (by decide))⟩⟩
    have aK:=aoU aS;have hsz:=Ng.out;obtain⟨u1,e1⟩:∃u,ai.cell? ⟨g,28,none⟩=some u:=⟨_,(aoW j2 28).trans (mV (by omega))⟩
    have f1:=ay j2 28;clear ah aS bC hks hsz j1 j2 ho
    (try dsimp only at aK|-)
    rw[hv] at aK|-;clear hv;go_simp;exact aK.out
   simp only[au,Nat.reduceAdd];apply V.az.fin;intro vs ai hS;obtain⟨j1,-,-,dL⟩:=hS;obtain⟨R,m,rc,j2,ho⟩:=dL rfl;refine aoX.out _ _ ?_;clear aoX dL
   (try dsimp only)
   obtain⟨c0,c1,c2⟩:=mK.out ai (ci k1 j1);have bC:=bM ai g 29 (.bool true) _ _ j2;have hks:V.af (λk=>k=g) ai (ai.setCell ⟨g,29,none⟩ (.bool true)):=aoZ _ _ g 29 _ (V.af.refl _ _);have qk:=iC (jP ho k1.size) hks (λk hk e=>by
    have e:k=g:=e;subst e;obtain⟨cs',z',h4⟩:=iL ho hk;exact absurd (cS j2 h4) (by decide))
   have hsz:=Ng.out;obtain⟨u1,e1⟩:∃u,ai.cell? ⟨g,29,none⟩=some u:=⟨_,(aoW j2 29).trans (mV (by simpa using hsz▸(by decide:29<30)))⟩
   have f1:=ay j2 29;have N9:=aoU bC;clear bC hsz j2;go_wp2_with fail;rw[N'.out] at N9;exact bodyPost_end (kV rfl _ _ _) rfl ⟨rfl,R,m,rc,N9.out,qk,ci k1 (ci j1 hks)⟩
  .kernel_rfl
 .kernel_rfl
def DN(r:Array Value)(id v:Nat)(q:ol)(e:Nat)(l:Value):Array Value:=(((((j5 (r.setIfInBounds 19 (.int .i32 1)) 21 (.int .u64 id) (.int .i64 q.kind) (.int .i64 q.s) (.int .u64 q.t) (.int .i64 q.x) (.int .i64 e) (.int .u64 v) (.slice none 0 0)).setIfInBounds 28 l).setIfInBounds 29 (.bool true)).setIfInBounds 18 (.int .u32 1)).setIfInBounds 19 (.int .i32 0))
theorem ail(r:Array Value)(i:Nat)(v:Value)(h:r[i]?=some v):r.setIfInBounds i v=r:=by
 apply Array.ext_getElem?;intro j;by_cases e:i=j
 .subst e;have hl:=aB h;rw[Array.getElem?_setIfInBounds_self_of_lt hl,h]
 .rw[pZ e]
theorem anQ(g:Nat)(id v e:Nat)(q:ol)(r:Array Value)(w:World)(hb:w.heap[g]?=some (.cells r 130 (0,0)))(hr:r.size=30)(he:e≠0)(r2:r[2]?=some (.int .u64 id))(r3:r[3]?=some (.int .i64 q.kind))(iK:r[4]?=some (.int .i64 q.s))(ki:r[5]?=some (.int .u64 q.t))(iV:r[6]?=some (.int .i64 q.x))(DO:r[18]?=some (.int .u32 0))(J8:r[19]?=some (.int .i32 0)):
 Calls prog 410 #[.pointer (some ⟨g,0,none⟩),.int .i64 e,.int .u64 v] w λfw w'=>fw= .returned (.tuple #[])/\w'.heap[g]?=some (.cells (DN r id v q e (.slice none 0 0)) 130 (0,0))/\V.af (λk=>k=g) w w':=by
 obtain⟨wb,cN⟩:=bB (((w.alloc (.cells #[.pointer (some ⟨g,0,none⟩)] 72)).alloc (.cells #[.int .i64 e] 23)).alloc (.cells #[.int .u64 v] 26))
 have aX:aoV w wb:=by rw[cN];exact(((aoV.refl w).alloc _).alloc _).alloc _
 have b0:wb.heap[w.heap.size]?=some (.cells #[.pointer (some ⟨g,0,none⟩)] 72 (0,0)):=by
  rw[cN];exact aH (((aoV.refl _).alloc _).alloc _) (bp w _)
 have b1:wb.heap[w.heap.size+1]?=some (.cells #[.int .i64 e] 23 (0,0)):=by
  rw[cN];refine aH ((aoV.refl _).alloc _) ?_;have:=bp (w.alloc (.cells #[.pointer (some ⟨g,0,none⟩)] 72)) (.cells #[.int .i64 e] 23)
  rwa[fF] at this
 have b2:wb.heap[w.heap.size+1+1]?=some (.cells #[.int .u64 v] 26 (0,0)):=by
  rw[cN];have:=bp ((w.alloc (.cells #[.pointer (some ⟨g,0,none⟩)] 72)).alloc (.cells #[.int .i64 e] 23)) (.cells #[.int .u64 v] 26)
  rwa[fF,fF] at this
 have iW:=aH aX hb;have n0:w.heap.size≠g:=λh=>by have:=aB hb;omega
 have n1:w.heap.size+1≠g:=λh=>by have:=aB hb;omega
 have n2:w.heap.size+1+1≠g:=λh=>by have:=aB hb;omega
 have bC:=bM wb g 19 (.int .i32 1) _ _ iW;have hks:V.af (λk=>k=g) wb (wb.setCell ⟨g,19,none⟩ (.int .i32 1)):=aoZ _ _ g 19 _ (V.af.refl _ _);have low:∀i,i≠19->(r.setIfInBounds 19 (.int .i32 1))[i]?=r[i]?:=λi hi=>pZ (λh=>hi h.symm)
 have hF:=ap8 g w.heap.size (w.heap.size+1) (w.heap.size+1+1) id v e q (r.setIfInBounds 19 (.int .i32 1)) _ bC (by simpa using hr) he ((low 2 (by decide)).trans r2) ((low 3 (by decide)).trans r3) ((low 4 (by decide)).trans iK) ((low 5 (by decide)).trans ki) ((low 6 (by decide)).trans iV)
  ((hks.block _ (aB b0) n0).trans b0) ((hks.block _ (aB b1) n1).trans b1) ((hks.block _ (aB b2) n2).trans b2)
 obtain⟨ra,ow⟩:=bB ((j5 (r.setIfInBounds 19 (.int .i32 1)) 21 (.int .u64 id) (.int .i64 q.kind) (.int .i64 q.s) (.int .u64 q.t) (.int .i64 q.x) (.int .i64 e) (.int .u64 v) (.slice none 0 0)).setIfInBounds 29 (.bool true))
 rw[<- ow] at hF;have J9:ra[18]?=some (.int .u32 0):=by
  rw[ow,pZ (by decide),BU _ _ _ _ _ _ _ _ _ _ (.inl (by decide)),low 18 (by decide)];exact DO
 have Ka:ra[19]?=some (.int .i32 1):=by
  rw[ow,pZ (by decide),BU _ _ _ _ _ _ _ _ _ _ (.inl (by decide)),Array.getElem?_setIfInBounds_self_of_lt (by omega)]
 have Kb:=gi g 18 411 #[.pointer (some ⟨w.heap.size,0,none⟩),.pointer (some ⟨w.heap.size+1,0,none⟩),.pointer (some ⟨w.heap.size+1+1,0,none⟩)] wb r 130 iW DO J8 (λw2=>w2.heap[g]?=some (.cells ra 130 (0,0))/\V.af (λk=>k=g) (wb.setCell ⟨g,19,none⟩ (.int .i32 1)) w2) (λ_ _=>rfl) hF
  (λw2 h2=>⟨ra,h2.1,⟨_,J9⟩,Ka⟩)
 have hA:DN r id v q e (.slice none 0 0)=(ra.setIfInBounds 18 (.int .u32 1)).setIfInBounds 19 (.int .i32 0):=by
  unfold DN;have ap9:(j5 (r.setIfInBounds 19 (.int .i32 1)) 21 (.int .u64 id) (.int .i64 q.kind) (.int .i64 q.s) (.int .u64 q.t) (.int .i64 q.x) (.int .i64 e) (.int .u64 v) (.slice none 0 0))[28]?=some (.slice none 0 0):=by
   unfold j5;rw[Array.getElem?_setIfInBounds_self_of_lt (by simp[hr])]
  rw[ail _ 28 _ ap9,<- ow]
 have rR:=aoU Kb;have iw:=aoU hA;have iD:=aoU cN;have TO:=aoU hks;have c0:=aoW b0 0;clear Kb hA cN hks ow hF J9 Ka low bC n0 n1 n2 r2 r3 iK ki iV DO J8 b0 b1 b2 he hr iW;go_enter func410,ntmps410
 go_wp2_with fail;rw[<- iD.out];refine rR.out.mono ?_;rintro fw w3⟨rfl,w2,⟨h1,h2⟩,h3⟩;have hs1:=bM w2.drew g 18 (.int .u32 1) _ _ h1;have hs2:=bM _ g (18+1) (.int .i32 0) _ _ hs1;have jN:V.af (λk=>k=g) w2 w3:=by
  rw[h3];exact aoZ _ _ g (18+1) _ (aoZ _ _ g 18 _ (V.af.co (aoV.drew (aoV.refl w2))))
 rw[<- h3] at hs2;have hK:V.af (λk=>k=g) w w3:=ci (V.af.co aX) (ci TO.out (ci h2 jN));have jo:=aoU hs2;clear hs1 hs2 h3 h1 h2 jN;go_wp2_with fail;have aS:=jo.out;rw[<- iw.out] at aS;exact bodyPost_end (kV rfl _ _ _) rfl ⟨rfl,aS,hK⟩
theorem ain(g:Nat)(id v:Nat)(q:ol)(r:Array Value)(w:World)(hb:w.heap[g]?=some (.cells r 130 (0,0)))(hr:r.size=30)(r2:r[2]?=some (.int .u64 id))(r3:r[3]?=some (.int .i64 q.kind))(iK:r[4]?=some (.int .i64 q.s))(ki:r[5]?=some (.int .u64 q.t))(iV:r[6]?=some (.int .i64 q.x))(DO:r[18]?=some (.int .u32 0))(J8:r[19]?=some (.int .i32 0))(bI:List aC)(hit:∀(W:World) (r':Array Value),V.af (λk=>k=g) w W->W.heap[g]?=some (.cells r' 130 (0,0))->(∀i,i<19->r'[i]?=r[i]?)->Calls prog 412 #[.pointer (some ⟨g,0,none⟩)] W λe w'=>∃R m,e= .returned (.slice R m m)/\(∃rc,ej w' W.heap.size R m rc bI)/\aoV W w'):
 Calls prog 410 #[.pointer (some ⟨g,0,none⟩),.int .i64 0,.int .u64 v] w λfw w'=>fw= .returned (.tuple #[])/\∃R m rc,w'.heap[g]?=some (.cells (DN r id v q 0 (.slice R m m)) 130 (0,0))/\ej w' w.heap.size R m rc bI/\V.af (λk=>k=g) w w':=by
 obtain⟨wb,cN⟩:=bB (((w.alloc (.cells #[.pointer (some ⟨g,0,none⟩)] 72)).alloc (.cells #[.int .i64 0] 23)).alloc (.cells #[.int .u64 v] 26))
 have aX:aoV w wb:=by rw[cN];exact(((aoV.refl w).alloc _).alloc _).alloc _
 have b0:wb.heap[w.heap.size]?=some (.cells #[.pointer (some ⟨g,0,none⟩)] 72 (0,0)):=by
  rw[cN];exact aH (((aoV.refl _).alloc _).alloc _) (bp w _)
 have b1:wb.heap[w.heap.size+1]?=some (.cells #[.int .i64 0] 23 (0,0)):=by
  rw[cN];refine aH ((aoV.refl _).alloc _) ?_;have:=bp (w.alloc (.cells #[.pointer (some ⟨g,0,none⟩)] 72)) (.cells #[.int .i64 0] 23)
  rwa[fF] at this
 have b2:wb.heap[w.heap.size+1+1]?=some (.cells #[.int .u64 v] 26 (0,0)):=by
  rw[cN];have:=bp ((w.alloc (.cells #[.pointer (some ⟨g,0,none⟩)] 72)).alloc (.cells #[.int .i64 0] 23)) (.cells #[.int .u64 v] 26)
  rwa[fF,fF] at this
 have iW:=aH aX hb;have n0:w.heap.size≠g:=λh=>by have:=aB hb;omega
 have n1:w.heap.size+1≠g:=λh=>by have:=aB hb;omega
 have n2:w.heap.size+1+1≠g:=λh=>by have:=aB hb;omega
 have bC:=bM wb g 19 (.int .i32 1) _ _ iW;have hks:V.af (λk=>k=g) wb (wb.setCell ⟨g,19,none⟩ (.int .i32 1)):=aoZ _ _ g 19 _ (V.af.refl _ _);have low:∀i,i≠19->(r.setIfInBounds 19 (.int .i32 1))[i]?=r[i]?:=λi hi=>pZ (λh=>hi h.symm)
 have hF:=aij g w.heap.size (w.heap.size+1) (w.heap.size+1+1) id v q (r.setIfInBounds 19 (.int .i32 1)) _ bC (by simpa using hr) ((low 2 (by decide)).trans r2) ((low 3 (by decide)).trans r3) ((low 4 (by decide)).trans iK) ((low 5 (by decide)).trans ki) ((low 6 (by decide)).trans iV)
  ((hks.block _ (aB b0) n0).trans b0) ((hks.block _ (aB b1) n1).trans b1) ((hks.block _ (aB b2) n2).trans b2) bI (λW r' hK hg hi=>hit W r' (ci (V.af.co aX) (ci hks hK)) hg (λi h19=>(hi i (by omega)).trans (low i (by omega))))
 obtain⟨rb,hrb⟩:∃rb:Value->Array Value,rb=λl=>((j5 (r.setIfInBounds 19 (.int .i32 1)) 21 (.int .u64 id) (.int .i64 q.kind) (.int .i64 q.s) (.int .u64 q.t) (.int .i64 q.x) (.int .i64 0) (.int .u64 v) (.slice none 0 0)).setIfInBounds 28 l).setIfInBounds 29 (.bool true):=⟨_,rfl⟩
 have EB:Calls prog 411 #[.pointer (some ⟨w.heap.size,0,none⟩),.pointer (some ⟨w.heap.size+1,0,none⟩),.pointer (some ⟨w.heap.size+1+1,0,none⟩)] (wb.setCell ⟨g,18+1,none⟩ (.int .i32 1)) λe w2=>e= .returned (.tuple #[])/\∃R m rc,w2.heap[g]?=some (.cells (rb (.slice R m m)) 130 (0,0))/\ej w2 w.heap.size R m rc bI/\V.af (λk=>k=g) (wb.setCell ⟨g,19,none⟩ (.int .i32 1)) w2:=
  hF.mono λe w2 ⟨h1,R,m,rc,h2,h3,h4⟩=>⟨h1,R,m,rc,by rw[hrb];exact h2,jP h3 (bQ aX.size hks.size),h4⟩
 have J9:∀l,(rb l)[18]?=some (.int .u32 0):=λl=>by
  rw[hrb];dsimp only;rw[pZ (by decide),pZ (by decide),BU _ _ _ _ _ _ _ _ _ _ (.inl (by decide)),low 18 (by decide)];exact DO
 have Ka:∀l,(rb l)[19]?=some (.int .i32 1):=λl=>by
  rw[hrb];dsimp only;rw[pZ (by decide),pZ (by decide),BU _ _ _ _ _ _ _ _ _ _ (.inl (by decide)),Array.getElem?_setIfInBounds_self_of_lt (by omega)]
 have Kb:=gi g 18 411 #[.pointer (some ⟨w.heap.size,0,none⟩),.pointer (some ⟨w.heap.size+1,0,none⟩),.pointer (some ⟨w.heap.size+1+1,0,none⟩)] wb r 130 iW DO J8 (λw2=>∃R m rc,w2.heap[g]?=some (.cells (rb (.slice R m m)) 130 (0,0))/\ej w2 w.heap.size R m rc bI/\V.af (λk=>k=g) (wb.setCell ⟨g,19,none⟩ (.int .i32 1)) w2) (λ_ _=>rfl) EB
  (λw2 ⟨R,m,rc,h2,_⟩=>⟨_,h2,⟨_,J9 _⟩,Ka _⟩)
 have hA:∀l,DN r id v q 0 l=((rb l).setIfInBounds 18 (.int .u32 1)).setIfInBounds 19 (.int .i32 0):=λl=>by rw[hrb];rfl
 have rR:=aoU Kb;have iw:=aoU hA;have iD:=aoU cN;have TO:=aoU hks;have c0:=aoW b0 0;clear Kb hA cN hks hrb hF EB hit J9 Ka low bC n0 n1 n2 r2 r3 iK ki iV DO J8 b0 b1 b2 hr iW;go_enter func410,ntmps410
 go_wp2_with fail;rw[<- iD.out];refine rR.out.mono ?_;rintro fw w3⟨rfl,w2,⟨R,m,rc,h1,ho,h2⟩,h3⟩;have hs1:=bM w2.drew g 18 (.int .u32 1) _ _ h1;have hs2:=bM _ g (18+1) (.int .i32 0) _ _ hs1;have jN:V.af (λk=>k=g) w2 w3:=by
  rw[h3];exact aoZ _ _ g (18+1) _ (aoZ _ _ g 18 _ (V.af.co (aoV.drew (aoV.refl w2))))
 rw[<- h3] at hs2;have hK:V.af (λk=>k=g) w w3:=ci (V.af.co aX) (ci TO.out (ci h2 jN));have oU:=iC ho jN (λk hk e=>by
  have e:k=g:=e;subst e;obtain⟨cs',z',h4⟩:=iL ho hk;exact absurd (cS h1 h4) (by decide))
 have jo:=aoU hs2;clear hs1 hs2 h3 h1 h2 jN;go_wp2_with fail;have aS:=jo.out;rw[<- iw.out] at aS;exact bodyPost_end (kV rfl _ _ _) rfl ⟨rfl,R,m,rc,aS,oU,hK⟩
theorem aio(ca:dT)(G:Option Addr)(gc:Nat)(A:Option Addr)(ac:Nat)(an:rV)(R:Option Addr)(rc:Nat):DN (gI ca G gc A ac) an.id an.v an.c an.e (.slice R an.l.length rc)=gI { ca with fin:=some an } G gc R rc:=by
 simp[DN,gI,j5,ao4,lk,Rh]
def vT(l:List (Nat×List aC)):List aC:=l.foldl (λout g=>jk out g.2) []
structure DP(ca:dT):Prop where
 ce:∃C,∀g∈ca.cW,g.1=C
 len:∀g∈ca.cW,g.2.length<=1500
 pre:∀k (hk:k<ca.cW.length),zE (vT (ca.cW.take k)) ca.cW[k].2/\(vT (ca.cW.take k)).length<=100000
 fin:(vT ca.cW).length<=100000
 n:ca.cW.length<=7
 s:ca.c.s<=255
theorem TP(gs:List vw):vT (gs.map (λv=>(v.ce,v.l)))=tQ gs:=by
 unfold vT tQ;rw[List.foldl_map]
theorem TQ{C:Nat} :∀(l:List (Nat×List aC))(n:Nat),(∀g∈l,g.1=C)->l.foldl (λm g=>max m g.1) n=if l= [] then n else max n C
 | [],n,_=>rfl
 |g::r,n,h=>by
  rw[List.foldl_cons,TQ r _ (λx hx=>h x (kS _ hx)),h g gN,if_neg (List.cons_ne_nil _ _)];split;rfl
  .rw[Nat.max_assoc,Nat.max_self]
theorem aip{ca:dT}(h:DP ca):vj ca=rq (vT ca.cW) (Int64.ofInt ca.c.s):=by
 obtain⟨C,hC⟩:=h.ce;unfold vj;dsimp only
 congr 1
 unfold vT;have e:∀g∈ca.cW,¬(g.1<ca.cW.foldl (λm g=>max m g.1) 0):=λg hg=>by
  rw[TQ _ _ hC,hC g hg,if_neg (λe=>by rw[e] at hg;cases hg)];omega
 have gen:∀(l:List (Nat×List aC))(M:Nat)(a:List aC),(∀g∈l,¬g.1<M)->l.foldl (λout g=>jk out (if g.1<M then g.2.filter (λx=>decide (M<x.v.toNat)) else g.2)) a=l.foldl (λout g=>jk out g.2) a:=by
  intro l M;induction l with
  |nil=>intro a _;rfl
  |cons g r ih=>
   intro a h;rw[List.foldl_cons,List.foldl_cons,if_neg (h g gN)];exact ih _ λx hx=>h x (kS _ hx)
 exact gen _ _ _ e
theorem BV{B g:Nat}{w:World}{G:Option Addr}{n gc:Nat}{xs:List Value}{r:Array Value}(hb:w.heap[g]?=some (.cells r 130 (0,0)))(ho:w.ownsRow B 496 2 (.slice G n gc) n xs){k:Nat}(hk:bg G k):k≠g:=λe=>by
 subst e;obtain⟨cs',z',h4⟩:=iL ho hk;exact absurd (cS hb h4) (by decide)
theorem S1{B g:Nat}{ca:dT}{K X:aD}{w:World}(H:gJ B g ca K X w)(hA:cy K X w)(hf:ca.fin=none)(v:Nat)(hi:DP ca):
 Calls prog 410 #[.pointer (some ⟨g,0,none⟩),.int .i64 0,.int .u64 v] w λfw w'=>fw= .returned (.tuple #[])/\∃K',gJ B g (CS ca 0 v) K' X w'/\aO K X w K' X w'/\cy K' X w':=by
 have hlt:∀k,X k->k<w.heap.size:=λk hk=>(bH.call.lt H hk).2
 obtain⟨G,gc,A,ac,gs,h1,h2,h3,h4,h5,h6,h7⟩:=H;have hn:∀k,K k->k≠g:=λk hk e=>hA.ap g ((h4 g).2 (.inl rfl)) (e▸hk)
 obtain⟨C,hC⟩:=hi.ce;have eG:ca.cW.length=gs.length:=by rw[h5,iZ]
 have hsi:(Int64.ofInt (ca.c.s:Int)).toInt=(ca.c.s:Int):=by have:=hi.s;exact Int64.toInt_ofInt_of_le (by omega) (by omega)
 refine(ain g ca.id v ca.c (gI ca G gc A ac) w h1 rfl rfl rfl rfl rfl rfl (by simp[gI,lk,hf,Rh]) rfl (vj ca) (λW r' hK hg hr=>?_)).mono ?_
 .rw[aip hi,h5,TP];refine(ah4 g ca.cW.length gc C G gs (Int64.ofInt ca.c.s) r' W hg ((hr 4 (by decide)).trans (by rw[hsi];rfl)) ((hr 16 (by decide)).trans rfl) (Rd.own (iC h3 hK (λk hk=>BV h1 h3 hk))) hi.n (λv hv=>⟨((h6 v hv).keep hK hn).rd,?_,?_⟩) (λk hk=>?_) ?_).mono ?_
  .exact hi.len (v.ce,v.l) (by rw[h5];exact List.mem_map_of_mem hv)
  .exact hC (v.ce,v.l) (by rw[h5];exact List.mem_map_of_mem hv)
  .have h:=hi.pre k (by omega);simp only[h5,<- List.map_take,TP,List.getElem_map] at h;exact h
  .have:=hi.fin
   rwa[h5,TP] at this
  .rintro fw w'⟨R,m,rfl,ho,hu⟩;exact⟨R,m,rfl,ho,hu⟩
 .rintro fw w'⟨rfl,R,m,rc,hb,ho,hK⟩;have hml:=ho.len;have Fn:V.af X w w':=eQ hK (λk hk=>(h4 k).2 (.inl hk));have np:∀k,bg R k->w.heap.size<=k/\k<w'.heap.size:=λk hk=>by
   obtain⟨a,rfl,rfl⟩:=hk;exact jO ho a.block rfl
  refine⟨rfl,λk=>K k\/bg R k,⟨G,gc,R,m,gs,?_,h2,iC h3 hK (λk hk=>BV h1 h3 hk),h4,h5,λv hv=>((h6 v hv).keep hK hn).more (λk hk=> .inl hk),?_⟩,⟨Fn,λk hk=> .inl hk,λ_ h=> .inl h,λk h=>h.imp id (λh=>(np k h).1)⟩,⟨λk hk hk2=>hk2.elim (hA.ap k hk) (λh=>by have:=(np k h).1;have:=hlt k hk;omega),λk hk=>hk.elim (λh=>cg (hA.lt k h) hK.size) (λh=>(np k h).2)⟩⟩
  .rw[hb];have:=aio ca G gc A ac ⟨ca.id,ca.c,0,v,vj ca⟩ R m;unfold CS;rw[if_pos rfl,<- this,<- hml]
  .have e:ao4 (CS ca 0 v)=⟨ca.id,ca.c,0,v,vj ca⟩:=rfl;rw[e];dsimp only;rw[<- hml];exact⟨Rd.own ho,λ_ a ha=> .inr ⟨a,ha,rfl⟩⟩
theorem aiq:(prog.info? 32).map (·.size)=some 8:=by kernel_rfl
theorem air(g:Nat)(r:Array Value)(w:World)(hb:w.heap[g]?=some (.cells r 130 (0,0)))(vU vV ie at_ ae vW an ac:Nat)(vX:Int)(A:Option Addr)(l:List aC)(b9:Bool)(K5:r[21]?=some (.int .u64 vU))(kq:r[22]?=some (.int .i64 vV))(Pm:r[23]?=some (.int .i64 ie))(J':r[24]?=some (.int .u64 at_))(A3:r[25]?=some (.int .i64 vX))(r7:r[26]?=some (.int .i64 ae))(S7:r[27]?=some (.int .u64 vW))(H6:r[28]?=some (.slice A an ac))(K3:r[29]?=some (.bool b9))(ha:Rd w w.heap.size 5 A an (bl l))(kE:an<=1000000):
 Calls prog 408 #[.pointer (some ⟨g,0,none⟩)] w λe w'=>∃R rc,e= .returned (.tuple #[.agg #[.int .u64 vU,.int .i64 vV,.int .i64 ie,.int .u64 at_,.int .i64 vX,.int .i64 ae,.int .u64 vW,.slice R an rc],.bool b9])/\ej w' w.heap.size R an rc l/\aoV w w':=by
 obtain⟨wb,cN⟩:=bB ((w.alloc (.cells #[.int .u64 0,.int .i64 0,.int .i64 0,.int .u64 0,.int .i64 0,.int .i64 0,.int .u64 0,.slice none 0 0] 32)).alloc (.cells #[.int .u64 0,.int .i64 0,.int .i64 0,.int .u64 0,.int .i64 0,.int .i64 0,.int .u64 0,.slice none 0 0] 32))
 have aX:aoV w wb:=by rw[cN];exact((aoV.refl w).alloc _).alloc _
 have aQ:aoV w (w.alloc (.cells #[.int .u64 0,.int .i64 0,.int .i64 0,.int .u64 0,.int .i64 0,.int .i64 0,.int .u64 0,.slice none 0 0] 32)):=(aoV.refl w).alloc _;have h1:wb.heap[w.heap.size]?=some (.cells #[.int .u64 0,.int .i64 0,.int .i64 0,.int .u64 0,.int .i64 0,.int .i64 0,.int .u64 0,.slice none 0 0] 32 (0,0)):=by rw[cN];exact aH ((aoV.refl _).alloc _) (bp w _)
 have h2:wb.heap[w.heap.size+1]?=some (.cells #[.int .u64 0,.int .i64 0,.int .i64 0,.int .u64 0,.int .i64 0,.int .i64 0,.int .u64 0,.slice none 0 0] 32 (0,0)):=by
  rw[cN];have:=bp (w.alloc (.cells #[.int .u64 0,.int .i64 0,.int .i64 0,.int .u64 0,.int .i64 0,.int .i64 0,.int .u64 0,.slice none 0 0] 32)) (.cells #[.int .u64 0,.int .i64 0,.int .i64 0,.int .u64 0,.int .i64 0,.int .i64 0,.int .u64 0,.slice none 0 0] 32)
  rwa[fF] at this
 have eG:=aB hb;have hcell:∀W:World,W.heap[g]?=some (.cells r 130 (0,0))->W.cell? ⟨g,21,none⟩=some (.int .u64 vU)/\W.cell? ⟨g,22,none⟩=some (.int .i64 vV)/\W.cell? ⟨g,23,none⟩=some (.int .i64 ie)/\W.cell? ⟨g,24,none⟩=some (.int .u64 at_)/\W.cell? ⟨g,25,none⟩=some (.int .i64 vX)/\W.cell? ⟨g,26,none⟩=some (.int .i64 ae)/\W.cell? ⟨g,27,none⟩=some (.int .u64 vW)/\W.cell? ⟨g,28,none⟩=some (.slice A an ac)/\W.cell? ⟨g,29,none⟩=some (.bool b9):=λW h=>
  ⟨(aoW h 21).trans K5,(aoW h 22).trans kq,(aoW h 23).trans Pm,(aoW h 24).trans J',(aoW h 25).trans A3,(aoW h 26).trans r7,(aoW h 27).trans S7,(aoW h 28).trans H6,(aoW h 29).trans K3⟩
 obtain⟨c1,c2,c3,c4,c5,gF,pz,uV,c9⟩:=hcell _ (aH aQ hb);have cB:=aoU hcell;have iD:=aoU cN;have iW:=aH aX hb;have N':=aoU ha;have hs2:wb.heap.size=w.heap.size+1+1:=by rw[cN,fF,fF]
 have jo:=aoU hs2;clear hcell cN K5 kq Pm J' A3 r7 S7 H6 K3 ha aQ hb hs2;go_enter func408,ntmps408
 go_upto_region 2 with (first
  |(
   with_reducible show wpList _ _ _ (⟨none,.store 32 _ _,_,_,_,none⟩::_) _ _
   rw[<- iD.out];go_loud (refine nW rfl 32 _ _ rfl (g:=w.heap.size+1) (cells:= #[.int .u64 vU,.int .i64 vV,.int .i64 ie,.int .u64 at_,.int .i64 vX,.int .i64 ae,.int .u64 vW,.slice A an ac]) (by kernel_rfl) (by kernel_rfl) h2 aiq rfl (by simp[Value.oneCell']) ?_)
   intro w4 hgd dF))
 have uu:=cL dF h1 (by show¬w.heap.size=w.heap.size+1;omega);have An:=cL dF iW (by show¬g=w.heap.size+1;omega);have eO:aoV w w4:=gy.up aX dF (by omega);have hs4:w.heap.size+1<w4.heap.size:=by have:=dF.size;have:=jo.out;omega
 obtain⟨g2,ex⟩:=bB (w.heap.size+1)
 have CW:Rd w4 w4.heap.size 5 A an (bl l):=N'.out.up eO;rw[<- ex] at hgd dF hs4|-;have yn:=aoU ex;clear ex h1 h2 iW aX iD jo c1 c2 c3 c4 c5 gF pz uV c9 dF N';have Dc:w.heap.size<=w.heap.size:=aZ _;generalize eH:w.heap.size=g1 at *;have EU:g2=g1+1:=yn.out;have Kd:=aoU EU;clear EU yn;have kB:=aoW hgd 7;go_upto_region 3 with (
  at_builtin;refine iF _ AO (fC _ w4.heap.size _ _) CW (CI _) (by omega) (by omega) (aZ _) rfl rfl rfl rfl ?_;intro v5 ai dN eh om;obtain⟨bZ,dC,rfl⟩:=eL dN
  have lN:ai.heap[g2]?=some (.cells #[.int .u64 vU,.int .i64 vV,.int .i64 ie,.int .u64 at_,.int .i64 vX,.int .i64 ae,.int .u64 vW,.slice A an ac] 32 (0,0)):=(eh.block g2 hs4 (λe=>by cases e)).trans hgd;have tz:ai.heap[g1]?=some (.cells #[.int .u64 0,.int .i64 0,.int .i64 0,.int .u64 0,.int .i64 0,.int .i64 0,.int .u64 0,.slice none 0 0] 32 (0,0)):=(eh.block g1 (by have:=Kd.out;omega) (λe=>by cases e)).trans uu;have rm:ai.heap[g]?=some (.cells r 130 (0,0)):=(eh.block g (by have:=Kd.out;omega) (λe=>by cases e)).trans An
  have cI:aoV w ai:=eO.grown eh (λg hg=>by cases hg);rw[dV,gY] at dN;have dt:=aoW lN 7;have f5:=ay lN 7;have wZ:=bM ai g2 7 (.slice bZ an dC) _ _ lN;have gU:V.af (λx=>x=g2) ai (ai.setCell ⟨g2,7,none⟩ (.slice bZ an dC)):=aoZ _ _ g2 7 _ (V.af.refl _ _);clear eh om)
 (try rw[dV])
 generalize ai.setCell ⟨g2,7,none⟩ (.slice bZ an dC)=cH at *;have Bb:cH.heap[g2]?=some (.cells #[.int .u64 vU,.int .i64 vV,.int .i64 ie,.int .u64 at_,.int .i64 vX,.int .i64 ae,.int .u64 vW,.slice bZ an dC] 32 (0,0)):=wZ;have h12:=Kd.out;have IK:=cL gU tz (by show¬g1=g2;omega);have iz:=cL gU rm (by show¬g=g2;omega);have eZ:aoV w cH:=gy.up cI gU (by omega);have jw:=iC dN gU (λkk hk e=>by
  have e:kk=g2:=e;obtain⟨a,rfl,rfl⟩:=hk;have:=(jO dN a.block rfl).1;omega)
 clear wZ tz rm lN dN cI gU dt f5 kB uu An hgd CW eO;have T1:=cB.out;have hZ:j5 #[.int .u64 0,.int .i64 0,.int .i64 0,.int .u64 0,.int .i64 0,.int .i64 0,.int .u64 0,.slice none 0 0] 0 (.int .u64 vU) (.int .i64 vV) (.int .i64 ie) (.int .u64 at_) (.int .i64 vX) (.int .i64 ae) (.int .u64 vW) (.slice bZ an dC)= #[.int .u64 vU,.int .i64 vV,.int .i64 ie,.int .u64 at_,.int .i64 vX,.int .i64 ae,.int .u64 vW,.slice bZ an dC]:=by rfl
 have jh:=aoU hZ;have aL:∀W,V.af (λk=>k=g1) cH W->W.cell? ⟨g2,0,none⟩=some (.int .u64 vU)/\W.cell? ⟨g2,1,none⟩=some (.int .i64 vV)/\W.cell? ⟨g2,2,none⟩=some (.int .i64 ie)/\W.cell? ⟨g2,3,none⟩=some (.int .u64 at_)/\W.cell? ⟨g2,4,none⟩=some (.int .i64 vX)/\W.cell? ⟨g2,5,none⟩=some (.int .i64 ae)/\W.cell? ⟨g2,6,none⟩=some (.int .u64 vW)/\W.cell? ⟨g2,7,none⟩=some (.slice bZ an dC)/\W.cell? ⟨g,29,none⟩=some (.bool b9):=λW hK=>by
  have e:=cL hK Bb (by show¬g2=g1;omega);have e2:=cL hK iz (by show¬g=g1;omega);exact⟨aoW e 0,aoW e 1,aoW e 2,aoW e 3,aoW e 4,aoW e 5,aoW e 6,aoW e 7,(T1 W e2).2.2.2.2.2.2.2.2⟩
 have mK:=aoU aL;clear aL Bb iz T1 cB hZ h12;apply V.iE (λi vs W=>V.af (λk=>k=g1) cH W/\(i=0->W.heap[g1]?=some (.cells #[.int .u64 0,.int .i64 0,.int .i64 0,.int .u64 0,.int .i64 0,.int .i64 0,.int .u64 0,.slice none 0 0] 32 (0,0)))/\(i=1->W.heap[g1]?=some (.cells #[.int .u64 vU,.int .i64 vV,.int .i64 ie,.int .u64 at_,.int .i64 vX,.int .i64 ae,.int .u64 vW,.slice bZ an dC] 32 (0,0)))) (by kernel_rfl) (by kernel_rfl) (λvs=>⟨V.af.co (aoV.drew (aoV.refl cH)),λ_=>aH (aoV.drew (aoV.refl cH)) IK,λe=>absurd e (by decide)⟩)
 .intro aF aoX;iterate 5 (apply V.az.ok;(· intro i vs ai hS;obtain⟨d0,d1,d2,d3,d4,d5,d6,d7,d8⟩:=mK.out ai hS.1;clear hS;go_simp;(try with_reducible rfl));(· rfl);simp only[au,Nat.reduceAdd])
  apply V.az.call undef;rfl
  .intro vs ag hS cY ah;obtain⟨k1,k2,-⟩:=hS;have k2:=k2 rfl;obtain⟨bC,hks⟩:=J7 ag g1 0 #[.int .u64 0,.int .i64 0,.int .i64 0,.int .u64 0,.int .i64 0,.int .i64 0,.int .u64 0,.slice none 0 0] (.int .u64 vU) (.int .i64 vV) (.int .i64 ie) (.int .u64 at_) (.int .i64 vX) (.int .i64 ae) (.int .u64 vW) (.slice bZ an dC) _ k2;rw[jh.out] at bC;have aS:=ah.out _ ⟨ci k1 hks,λe=>absurd e (by decide),λ_=>bC⟩;have aK:=aoU aS;obtain⟨e1,e2,bG,bT,dt,jV⟩:=iQ k2
   have kg:=aoW k2 6;have py:=aoW k2 7;have f1:=ay k2 0;have f2:=ay k2 1;have f3:=ay k2 2;have f4:=ay k2 3;have f5:=ay k2 4;have f6:=ay k2 5;have f7:=ay k2 6;have f8:=ay k2 7;clear ah aS bC hks k1 k2
   (try dsimp only at aK|-)
   go_simp;exact aK.out
  simp only[au,Nat.reduceAdd];iterate 1 (apply V.az.ok;(· intro i vs ai hS;clear hS;go_simp;(try with_reducible rfl));(· rfl);simp only[au,Nat.reduceAdd])
  apply V.az.fin;intro vs ag hS;obtain⟨k1,-,qI⟩:=hS;have k2:=qI rfl;clear qI;refine aoX.out _ _ ?_;clear aoX
  (try dsimp only)
  have ot:aoV w ag:=gy.up eZ k1 (by omega);have Ke:=iC jw k1 (λkk hk e=>by
   have e:kk=g1:=e;obtain⟨a,rfl,rfl⟩:=hk;have:=(jO jw a.block rfl).1;have:=Kd.out;omega)
  obtain⟨e0,e1,e2,bG,bT,dt,jV,kg⟩:=yP k2;go_wp2_with fail;refine dm (v:= .tuple #[.agg #[.int .u64 vU,.int .i64 vV,.int .i64 ie,.int .u64 at_,.int .i64 vX,.int .i64 ae,.int .u64 vW,.slice bZ an dC],.bool b9]) (by simp[results,results408,go_sem,e0,e1,e2,bG,bT,dt,jV,kg]) rfl ?_;exact⟨bZ,dC,rfl,jP Ke (by have:=Kd.out;omega),ot⟩
 .kernel_rfl
theorem R9{B g:Nat}{ca:dT}{K X:aD}{w:World}(H:gJ B g ca K X w)(hl:(ao4 ca).l.length<=1000000):
 Calls prog 408 #[.pointer (some ⟨g,0,none⟩)] w λe w'=>∃R rc,e= .returned (.tuple #[.agg #[.int .u64 ((ao4 ca).id:Int),.int .i64 ((ao4 ca).c.kind:Int),.int .i64 ((ao4 ca).c.s:Int),.int .u64 ((ao4 ca).c.t:Int),.int .i64 (ao4 ca).c.x,.int .i64 ((ao4 ca).e:Int),.int .u64 ((ao4 ca).v:Int),.slice R (ao4 ca).l.length rc],.bool (lk ca)])/\ej w' w.heap.size R (ao4 ca).l.length rc (ao4 ca).l/\aoV w w':=by
 obtain⟨G,gc,A,ac,gs,h1,h2,h3,h4,h5,h6,h7⟩:=H;exact air g (gI ca G gc A ac) w h1 _ _ _ _ _ _ _ _ _ _ _ _ rfl rfl rfl rfl rfl rfl rfl rfl rfl h7.rd hl
theorem Gm(ca:dT)(G:Option Addr)(gc:Nat)(A:Option Addr)(ac:Nat){f:Nat}(hf:f<7):(gI ca G gc A ac)[8+f]?=some (.bool (ca.cnt.getD f false)):=by
 rcases f with _|_|_|_|_|_|_|f <;>first|rfl|omega
theorem ais{B g:Nat}{ca:dT}{K X:aD}{w:World}(H:gJ B g ca K X w)(hA:cy K X w)(hf:ca.fin=none)(v:em)(hv:Rd w w.heap.size 5 v.A v.m.l.length (bl v.m.l))(hlen:v.m.l.length<=1500)(hok:gT v.m=true)(ht:v.m.t=ca.at_)(hid:v.m.id=ca.id)(hfn:v.m.f<ca.n)(hn:ca.n<=7)(kP:ca.cnt.getD v.m.f false=false)(hk:ca.c.kind=3/\v.m.k=4\/ca.c.kind≠3/\v.m.k=1):
 Calls prog 414 #[.pointer (some ⟨g,0,none⟩),.agg #[.int .i64 v.m.k,.int .i64 v.m.f,.int .i64 v.m.t,.int .u64 v.m.id,.int .u64 v.m.n,.slice v.A v.m.l.length v.c]] w λe w'=>e= .returned (.bool false)/\aoV w w':=by
 obtain⟨⟨mk,mf,mt,mid,mn,l⟩,bj,dS⟩:=v
 (try dsimp only at *)
 subst ht hid;have yg:∀k,X k->k<w.heap.size:=λk hk=>(bH.call.lt H hk).2
 have dr:=aoU H;obtain⟨G,gc,A,ac,gs,h1,h2,h3,h4,h5,h6,h7⟩:=H;have iM:=λW (hW:Rd W W.heap.size 5 bj l.length (bl l))=>zl (mk:Int) (mf:Int) (ca.at_:Int) ca.id mn bj l.length dS l W hW (by omega)
 have gW:pM (mk:Int) (mf:Int) (ca.at_:Int) ca.id mn l=true:=hok;rw[gW] at iM;have lj:=aoU iM;have aQ:aoV w (w.alloc (.cells #[.int .i64 mk,.int .i64 mf,.int .i64 ca.at_,.int .u64 ca.id,.int .u64 mn,.slice bj l.length dS] 135)):=(aoV.refl w).alloc _;have aL:=bp w (.cells #[.int .i64 mk,.int .i64 mf,.int .i64 ca.at_,.int .u64 ca.id,.int .u64 mn,.slice bj l.length dS] 135);have y1:decide (ca.n<=mf)=false:=by rw[iO];omega
 have lZ:decide ((ca.n:Int)<=(mf:Int))=false:=by rw[iO];omega
 have wT:¬(mf:Int)<0:=by omega
 have oe:(mf:Int)<7:=by omega
 have vk:((mf:Nat):Int).toNat=mf:=by omega
 have fK:(gI ca G gc A ac)[8+mf]?=some (.bool false):=by rw[Gm ca G gc A ac (by omega),kP]
 have hdone:(gI ca G gc A ac)[29]?=some (.bool false):=by simp[gI,lk,hf]
 have hcell:∀W,aoV (w.alloc (.cells #[.int .i64 mk,.int .i64 mf,.int .i64 ca.at_,.int .u64 ca.id,.int .u64 mn,.slice bj l.length dS] 135)) W->(aoV (w.alloc (.cells #[.int .i64 mk,.int .i64 mf,.int .i64 ca.at_,.int .u64 ca.id,.int .u64 mn,.slice bj l.length dS] 135)) W/\Rd W W.heap.size 5 bj l.length (bl l))/\W.cell? ⟨g,29,none⟩=some (.bool false)/\W.cell? ⟨g,0,none⟩=some (.int .i64 ca.n)/\W.cell? ⟨g,1,none⟩=some (.int .i64 ca.at_)/\W.cell? ⟨g,2,none⟩=some (.int .u64 ca.id)/\W.cell? ⟨g,8+mf,none⟩=some (.bool false)/\W.cell? ⟨g,3,none⟩=some (.int .i64 ca.c.kind)/\
  W.cell? ⟨w.heap.size,0,none⟩=some (.int .i64 mk)/\W.cell? ⟨w.heap.size,1,none⟩=some (.int .i64 mf)/\W.cell? ⟨w.heap.size,2,none⟩=some (.int .i64 ca.at_)/\W.cell? ⟨w.heap.size,3,none⟩=some (.int .u64 ca.id)/\W.cell? ⟨w.heap.size,4,none⟩=some (.int .u64 mn)/\W.cell? ⟨w.heap.size,5,none⟩=some (.slice bj l.length dS):=λW hW=>by
  have e1:=aH (aQ.trans hW) h1;have e2:=aH hW aL;exact⟨⟨hW,hv.up (aQ.trans hW)⟩,(aoW e1 29).trans hdone,aoW e1 0,aoW e1 1,aoW e1 2,(aoW e1 (8+mf)).trans fK,aoW e1 3,aoW e2 0,aoW e2 1,aoW e2 2,aoW e2 3,aoW e2 4,aoW e2 5⟩
 have cB:=aoU hcell;have mK:=aoU aL;have dz:=aoU hf;have k9:=aoU kP;clear hcell aL iM gW fK hdone hok hf kP h1 h2 h3 h4 h5 h6 h7 hv hlen;go_enter func414,ntmps414
 go_wp2_with fail;generalize cM:w.alloc (.cells #[.int .i64 mk,.int .i64 mf,.int .i64 ca.at_,.int .u64 ca.id,.int .u64 mn,.slice bj l.length dS] 135)=wa at *;generalize eH:w.heap.size=br at *;apply V.fQ _ (by kernel_rfl) (by kernel_rfl) cB.out
 .intro aF aoX;iterate 5 (apply V.aj.ok;intros;go_simp;rfl;rfl;go_frame)
  iterate 1 (apply V.aj.eI (t:=10);intros;go_simp;rfl;rfl;intro;rfl;go_frame)
  apply V.aj.p7 (t:=10) (.bool true) [];rfl
  .intro vs;rfl
  .intro vs w1 hK hS _ K ah;go_simp;refine(lj.out _ hS.1.2).mono ?_;rintro e w2⟨rfl,aq⟩;exact ah.out _ aq
  simp only[au,Nat.reduceAdd];iterate 1 (apply V.aj.eI (t:=10);intros;go_simp;rfl;rfl;intro;rfl;go_frame)
  iterate 2 (apply V.aj.ok;intros;go_simp;rfl;rfl;go_frame)
  iterate 7 (apply V.aj.eI (t:=15);intros;go_simp;rfl;rfl;intro;rfl;go_frame)
  iterate 2 (apply V.aj.ok;intros;go_simp;rfl;rfl;go_frame)
  iterate 7 (apply V.aj.eI (t:=24);intros;go_simp;rfl;rfl;intro;rfl;go_frame)
  iterate 2 (apply V.aj.ok;intros;go_simp;rfl;rfl;go_frame)
  iterate 7 (apply V.aj.eI (t:=33);intros;go_simp;rfl;rfl;intro;rfl;go_frame)
  iterate 2 (apply V.aj.ok;intros;go_simp;rfl;rfl;go_frame)
  iterate 7 (apply V.aj.eI (t:=42);intros;go_simp;rfl;rfl;intro;rfl;go_frame)
  iterate 1 (apply V.aj.ok;intros;go_simp;rfl;rfl;go_frame)
  apply V.aj.fin [];intro vs w1 hK hS _;refine aoX.out _ _ ?_;clear aoX;obtain⟨⟨hu1,sj⟩,Gn,c0,c1,c2,uV,c3,d0,d1,d2,d3,d4,d5⟩:=hS;clear cB lj mK;rcases hk with⟨aY,rfl⟩|⟨aY,rfl⟩
  .rw[show((4:Nat):Int)=4 from rfl] at *;have z:((ca.c.kind:Int)==3)=true:=by rw[aY];rfl
   go_wp2_with fail;go_ret;exact⟨rfl,aQ.trans hu1⟩
  .rw[show((1:Nat):Int)=1 from rfl] at *;have z:((ca.c.kind:Int)==3)=false:=by simp;omega
   go_wp2_with fail;go_ret;exact⟨rfl,aQ.trans hu1⟩
 .kernel_rfl
theorem Ob(ca:dT)(G:Option Addr)(gc:Nat)(A:Option Addr)(ac:Nat){f:Nat}(hf:f<7)(hl:ca.cnt.length=7):
 ((gI ca G gc A ac).setIfInBounds (8+f) (.bool true)).setIfInBounds 15 (.int .i64 ((ca.count:Int)+1))=gI { ca with cnt:=ca.cnt.set f true,count:=ca.count+1 } G gc A ac:=by
 obtain⟨n,at_,id,c,v,cnt,count,cW,ticks,fin⟩:=ca;dsimp only at hl
 match cnt,hl with
 | [b0,b1,b2,b3,b4,kB,anR],_=>rcases f with _|_|_|_|_|_|_|f <;>first|(simp[gI,ao4,lk];done)|omega
theorem ait{B g:Nat}{ca:dT}{K X:aD}{w:World}(H:gJ B g ca K X w)(hA:cy K X w)(hf:ca.fin=none)(v:em)(hv:Rd w w.heap.size 5 v.A v.m.l.length (bl v.m.l))(hlen:v.m.l.length<=1500)(hok:gT v.m=true)(ht:v.m.t=ca.at_)(hid:v.m.id=ca.id)(hfn:v.m.f<ca.n)(hn:ca.n<=7)(kP:ca.cnt.getD v.m.f false=false)(jN:ca.c.kind≠3)(hk:v.m.k=2)(cn:ca.cnt.length=7)(hct:ca.count<=1000)(hi:DP ca):
 Calls prog 414 #[.pointer (some ⟨g,0,none⟩),.agg #[.int .i64 v.m.k,.int .i64 v.m.f,.int .i64 v.m.t,.int .u64 v.m.id,.int .u64 v.m.n,.slice v.A v.m.l.length v.c]] w λe w'=>e= .returned (.bool true)/\∃K' X',gJ B g (pN ca v.m.f) K' X' w'/\aO K X w K' X' w'/\cy K' X' w':=by
 obtain⟨⟨mk,mf,mt,mid,mn,l⟩,bj,dS⟩:=v
 (try dsimp only at *)
 subst ht hid;have yg:∀k,X k->k<w.heap.size:=λk hk=>(bH.call.lt H hk).2
 have dr:=aoU H;obtain⟨G,gc,A,ac,gs,h1,h2,h3,h4,h5,h6,h7⟩:=H;have iM:=λW (hW:Rd W W.heap.size 5 bj l.length (bl l))=>zl (mk:Int) (mf:Int) (ca.at_:Int) ca.id mn bj l.length dS l W hW (by omega)
 have gW:pM (mk:Int) (mf:Int) (ca.at_:Int) ca.id mn l=true:=hok;rw[gW] at iM;have lj:=aoU iM;have aQ:aoV w (w.alloc (.cells #[.int .i64 mk,.int .i64 mf,.int .i64 ca.at_,.int .u64 ca.id,.int .u64 mn,.slice bj l.length dS] 135)):=(aoV.refl w).alloc _;have aL:=bp w (.cells #[.int .i64 mk,.int .i64 mf,.int .i64 ca.at_,.int .u64 ca.id,.int .u64 mn,.slice bj l.length dS] 135);have y1:decide (ca.n<=mf)=false:=by rw[iO];omega
 have lZ:decide ((ca.n:Int)<=(mf:Int))=false:=by rw[iO];omega
 have wT:¬(mf:Int)<0:=by omega
 have oe:(mf:Int)<7:=by omega
 have vk:((mf:Nat):Int).toNat=mf:=by omega
 have fK:(gI ca G gc A ac)[8+mf]?=some (.bool false):=by rw[Gm ca G gc A ac (by omega),kP]
 have hdone:(gI ca G gc A ac)[29]?=some (.bool false):=by simp[gI,lk,hf]
 have hcell:∀W,aoV (w.alloc (.cells #[.int .i64 mk,.int .i64 mf,.int .i64 ca.at_,.int .u64 ca.id,.int .u64 mn,.slice bj l.length dS] 135)) W->(aoV (w.alloc (.cells #[.int .i64 mk,.int .i64 mf,.int .i64 ca.at_,.int .u64 ca.id,.int .u64 mn,.slice bj l.length dS] 135)) W/\Rd W W.heap.size 5 bj l.length (bl l))/\W.cell? ⟨g,29,none⟩=some (.bool false)/\W.cell? ⟨g,0,none⟩=some (.int .i64 ca.n)/\W.cell? ⟨g,1,none⟩=some (.int .i64 ca.at_)/\W.cell? ⟨g,2,none⟩=some (.int .u64 ca.id)/\W.cell? ⟨g,8+mf,none⟩=some (.bool false)/\W.cell? ⟨g,3,none⟩=some (.int .i64 ca.c.kind)/\
  W.cell? ⟨w.heap.size,0,none⟩=some (.int .i64 mk)/\W.cell? ⟨w.heap.size,1,none⟩=some (.int .i64 mf)/\W.cell? ⟨w.heap.size,2,none⟩=some (.int .i64 ca.at_)/\W.cell? ⟨w.heap.size,3,none⟩=some (.int .u64 ca.id)/\W.cell? ⟨w.heap.size,4,none⟩=some (.int .u64 mn)/\W.cell? ⟨w.heap.size,5,none⟩=some (.slice bj l.length dS):=λW hW=>by
  have e1:=aH (aQ.trans hW) h1;have e2:=aH hW aL;exact⟨⟨hW,hv.up (aQ.trans hW)⟩,(aoW e1 29).trans hdone,aoW e1 0,aoW e1 1,aoW e1 2,(aoW e1 (8+mf)).trans fK,aoW e1 3,aoW e2 0,aoW e2 1,aoW e2 2,aoW e2 3,aoW e2 4,aoW e2 5⟩
 have cB:=aoU hcell;have mK:=aoU aL;have dz:=aoU hf;have k9:=aoU kP;clear hcell aL iM gW fK hdone hok hf kP h1 h2 h3 h4 h5 h6 h7 hv hlen;have fV:=aoU hk;have pV:=aoU cn;clear hk cn;go_enter func414,ntmps414
 go_wp2_with fail;generalize cM:w.alloc (.cells #[.int .i64 mk,.int .i64 mf,.int .i64 ca.at_,.int .u64 ca.id,.int .u64 mn,.slice bj l.length dS] 135)=wa at *;generalize eH:w.heap.size=br at *;apply V.fQ _ (by kernel_rfl) (by kernel_rfl) cB.out
 .intro aF aoX;iterate 5 (apply V.aj.ok;intros;go_simp;rfl;rfl;go_frame)
  iterate 1 (apply V.aj.eI (t:=10);intros;go_simp;rfl;rfl;intro;rfl;go_frame)
  apply V.aj.p7 (t:=10) (.bool true) [];rfl
  .intro vs;rfl
  .intro vs w1 hK hS _ K ah;go_simp;refine(lj.out _ hS.1.2).mono ?_;rintro e w2⟨rfl,aq⟩;exact ah.out _ aq
  simp only[au,Nat.reduceAdd];iterate 1 (apply V.aj.eI (t:=10);intros;go_simp;rfl;rfl;intro;rfl;go_frame)
  iterate 2 (apply V.aj.ok;intros;go_simp;rfl;rfl;go_frame)
  iterate 7 (apply V.aj.eI (t:=15);intros;go_simp;rfl;rfl;intro;rfl;go_frame)
  iterate 2 (apply V.aj.ok;intros;go_simp;rfl;rfl;go_frame)
  iterate 7 (apply V.aj.eI (t:=24);intros;go_simp;rfl;rfl;intro;rfl;go_frame)
  iterate 2 (apply V.aj.ok;intros;go_simp;rfl;rfl;go_frame)
  iterate 7 (apply V.aj.eI (t:=33);intros;go_simp;rfl;rfl;intro;rfl;go_frame)
  iterate 2 (apply V.aj.ok;intros;go_simp;rfl;rfl;go_frame)
  iterate 7 (apply V.aj.eI (t:=42);intros;go_simp;rfl;rfl;intro;rfl;go_frame)
  iterate 1 (apply V.aj.ok;intros;go_simp;rfl;rfl;go_frame)
  apply V.aj.fin [];intro vs w1 hK hS _;refine aoX.out _ _ ?_;clear aoX;obtain⟨⟨hu1,sj⟩,Gn,c0,c1,c2,uV,c3,d0,d1,d2,d3,d4,d5⟩:=hS;have TR:=bH.call.up dr.out hA (aQ.trans hu1);have xw:=hA.up (aQ.trans hu1);have zW:aO K X w K X w1:=aO.up (aQ.trans hu1);have Kf:=aH hu1 mK.out;clear cB lj mK;have hk:=fV.out;clear fV;subst hk;rw[show((2:Nat):Int)=2 from rfl] at *;have z3:((ca.c.kind:Int)==3)=false:=by simp;omega
  go_wp2_with fail;clear Gn c0 c1 c2 uV c3 d0 d1 d2 d3 d4 d5 z3;generalize w1=ag at *;have hi1:DP { ca with cnt:=ca.cnt.set mf true,count:=ca.count+1 } :=⟨hi.ce,hi.len,hi.pre,hi.fin,hi.n,hi.s⟩
  have fS:=aoU hi1;clear hi1;clear hi;have TS:=TR;obtain⟨xy,xA,sE,xB,Kg,q1,cP,dQ,eX,fM,tH,xC⟩:=TS;have rC:br≠g:=λe=>by
   have BW:=q1;rw[<- e] at BW;exact absurd (cS Kf BW) (by decide)
  have iW:∀W,V.af (λk=>k=g) ag W->W.cell? ⟨br,1,none⟩=some (.int .i64 mf):=λW hK=>aoW (cL hK Kf rC) 1
  have zX:=aoU iW;have u8:(gI ca xy xA sE xB)[8+mf]?=some (.bool (ca.cnt.getD mf false)):=Gm _ _ _ _ _ (by omega);have Gp:=aoU u8;clear iW rC u8;apply V.iE (λi vs W=>V.af (λk=>k=g) ag W/\(i=0->W.heap[g]?=some (.cells (gI ca xy xA sE xB) 130 (0,0)))/\(i=1->W.heap[g]?=some (.cells ((gI ca xy xA sE xB).setIfInBounds (8+mf) (.bool true)) 130 (0,0)))) (by kernel_rfl) (by kernel_rfl) (λvs=>⟨V.af.co (aoV.drew (aoV.refl ag)),λ_=>aH (aoV.drew (aoV.refl ag)) q1,λe=>absurd e (by decide)⟩)
  .intro aF aoX;iterate 6 (apply V.az.ok;(· intro i vs ai hS;have d1:=zX.out ai hS.1;clear hS;go_simp;(try with_reducible rfl));(· rfl);simp only[au,Nat.reduceAdd])
   apply V.az.call undef;rfl
   .intro vs ai hS aiu ah;obtain⟨j1,j2,-⟩:=hS;have j2:=j2 rfl;have e1:=(aoW j2 (8+mf)).trans Gp.out;have f1:=ay j2 (8+mf);have bC:=bM ai g (8+mf) (.bool true) _ _ j2;have hks:V.af (λk=>k=g) ai (ai.setCell ⟨g,8+mf,none⟩ (.bool true)):=aoZ _ _ g (8+mf) _ (V.af.refl _ _);have aS:=ah.out _ ⟨ci j1 hks,λe=>absurd e (by decide),λ_=>bC⟩;have aK:=aoU aS;clear ah aS bC hks j1 j2
    (try dsimp only at aK|-)
    go_simp;exact aK.out
   simp only[au,Nat.reduceAdd];apply V.az.fin;intro vs ai hS;obtain⟨j1,-,Kh⟩:=hS;have j2:=Kh rfl;clear Kh;refine aoX.out _ _ ?_;clear aoX
   (try dsimp only)
   have zY:ai.cell? ⟨g,15,none⟩=some (.int .i64 ca.count):=(aoW j2 15).trans (by rw[pZ (by omega)];rfl);have f15:=ay j2 15;have bC:=bM ai g 15 (.int .i64 ((ca.count:Int)+1)) _ _ j2;have hks:V.af (λk=>k=g) ai (ai.setCell ⟨g,15,none⟩ (.int .i64 ((ca.count:Int)+1))):=aoZ _ _ g 15 _ (V.af.refl _ _);have hwr:IntKind.i64.wrap ((ca.count:Int)+1)=(ca.count:Int)+1:=IntWalk.i64_in _ (by omega);have uM:∀k,K k->k≠g:=λk hk e=>xw.ap g ((eX g).2 (.inl rfl)) (e▸hk)
   have sF:=aoU bC;clear bC;by_cases he:ca.count+1=jx ca.n
   .have z:(((ca.count:Int)+1)==(jx ca.n:Int))=true:=by rw[beq_iff_eq];omega
    have ft:=aoU he;have hs5:=sF.out;clear he sF;go_wp2_with fail;generalize ai.setCell ⟨g,15,none⟩ (.int .i64 ((ca.count:Int)+1))=fE at *;have lr:V.af (λk=>k=g) ag fE:=ci j1 hks;rw[Ob ca _ _ _ _ (by omega) pV.out] at hs5;have xD:gJ B g { ca with cnt:=ca.cnt.set mf true,count:=ca.count+1 } K X fE:=⟨xy,xA,sE,xB,Kg,hs5,cP,iC dQ lr (λk hk=>BV q1 dQ hk),eX,fM,λv hv=>(tH v hv).keep lr uM,xC.keep lr uM⟩
    have xE:cy K X fE:=⟨xw.ap,λk hk=>cg (xw.lt k hk) lr.size⟩
    have DQ:aO K X w K X fE:=zW.trans ⟨eQ lr (λk hk=>(eX k).2 (.inl hk)),λk hk=> .inl hk,λ_ h=>h,λ_ h=> .inl h⟩;have hcells:∀W,aoV fE W->aoV fE W/\W.cell? ⟨g,15,none⟩=some (.int .i64 ((ca.count:Int)+1))/\W.cell? ⟨g,0,none⟩=some (.int .i64 ca.n)/\W.cell? ⟨g,7,none⟩=some (.int .u64 ca.v):=λW hW=>by
     have h9:=aH hW hs5;exact⟨hW,(aoW h9 15).trans (by simp[gI]),aoW h9 0,aoW h9 7⟩
    have cB:=aoU hcells;clear hcells q1 cP dQ eX fM tH xC j1 j2 lr hks hs5 uM zY f15;apply V.fQ _ (by kernel_rfl) (by kernel_rfl) cB.out
    .intro aF aoX;iterate 8 (apply V.aj.ok;intros;go_simp;rfl;rfl;go_frame)
     apply V.aj.call (.int .i64 (jx ca.n:Int)) [];rfl
     .intro vs w1 hK hS _ K ah;go_simp;refine(Oa ca.n _ (by omega)).mono ?_;rintro e w2⟨rfl,rfl⟩;exact ah.out _ (aoV.refl _)
     simp only[au,Nat.reduceAdd];iterate 1 (apply V.aj.ok;intros;go_simp;rfl;rfl;go_frame)
     apply V.aj.fin [];intro vs w1 hK hS _;refine aoX.out _ _ ?_;clear aoX;obtain⟨fL,zY,c0,pz⟩:=hS;have xF:=bH.call.up xD xE fL;have xS:=xE.up fL;have tR:=aoU (S1 xF xS dz.out ca.v fS.out);clear xD xF cB;go_wp2_with fail;refine tR.out.mono ?_;rintro e Jq⟨rfl,TU,TW,TX,TY⟩;go_wp2_with fail;go_ret;refine⟨rfl,TU,X,?_,DQ.trans ((aO.up fL).trans TX),TY⟩
     (try rw[<- Oc.out])
     unfold pN;dsimp only;rw[if_pos ft.out];exact TW
    .kernel_rfl
   .have z:(((ca.count:Int)+1)==(jx ca.n:Int))=false:=by rw[beq_eq_false_iff_ne];omega
    have ft:=aoU he;have hs5:=sF.out;clear he sF;go_wp2_with fail;generalize ai.setCell ⟨g,15,none⟩ (.int .i64 ((ca.count:Int)+1))=fE at *;have lr:V.af (λk=>k=g) ag fE:=ci j1 hks;rw[Ob ca _ _ _ _ (by omega) pV.out] at hs5;have xD:gJ B g { ca with cnt:=ca.cnt.set mf true,count:=ca.count+1 } K X fE:=⟨xy,xA,sE,xB,Kg,hs5,cP,iC dQ lr (λk hk=>BV q1 dQ hk),eX,fM,λv hv=>(tH v hv).keep lr uM,xC.keep lr uM⟩
    have xE:cy K X fE:=⟨xw.ap,λk hk=>cg (xw.lt k hk) lr.size⟩
    have DQ:aO K X w K X fE:=zW.trans ⟨eQ lr (λk hk=>(eX k).2 (.inl hk)),λk hk=> .inl hk,λ_ h=>h,λ_ h=> .inl h⟩;have hcells:∀W,aoV fE W->aoV fE W/\W.cell? ⟨g,15,none⟩=some (.int .i64 ((ca.count:Int)+1))/\W.cell? ⟨g,0,none⟩=some (.int .i64 ca.n)/\W.cell? ⟨g,7,none⟩=some (.int .u64 ca.v):=λW hW=>by
     have h9:=aH hW hs5;exact⟨hW,(aoW h9 15).trans (by simp[gI]),aoW h9 0,aoW h9 7⟩
    have cB:=aoU hcells;clear hcells q1 cP dQ eX fM tH xC j1 j2 lr hks hs5 uM zY f15;apply V.fQ _ (by kernel_rfl) (by kernel_rfl) cB.out
    .intro aF aoX;iterate 8 (apply V.aj.ok;intros;go_simp;rfl;rfl;go_frame)
     apply V.aj.call (.int .i64 (jx ca.n:Int)) [];rfl
     .intro vs w1 hK hS _ K ah;go_simp;refine(Oa ca.n _ (by omega)).mono ?_;rintro e w2⟨rfl,rfl⟩;exact ah.out _ (aoV.refl _)
     simp only[au,Nat.reduceAdd];iterate 1 (apply V.aj.ok;intros;go_simp;rfl;rfl;go_frame)
     apply V.aj.fin [];intro vs w1 hK hS _;refine aoX.out _ _ ?_;clear aoX;obtain⟨fL,zY,c0,pz⟩:=hS;have xF:=bH.call.up xD xE fL;have xS:=xE.up fL;have apL:=aoU xF;clear xD xF cB;go_wp2_with fail;go_ret;refine⟨rfl,K,X,?_,DQ.trans (aO.up fL),xS⟩
     (try rw[<- Oc.out])
     unfold pN;dsimp only;rw[if_neg ft.out];exact apL.out
    .kernel_rfl
  .kernel_rfl
 .kernel_rfl
end
end Go.Proofs.YtfghplfgndppfaaGreatDoor
