/- Texts of this claim, joined: TpW7, TpW8, TpW10, TpW9, SkW3, SkW4, SkW5. -/
import Derived.IntWalk
import Derived.Lib.MinMax
import Derived.Test.YtfghplfgndppfaaGreatDoorZ16
set_option linter.unusedVariables false
set_option linter.unusedSimpArgs false
set_option maxRecDepth 100000
set_option maxHeartbeats 8000000
namespace Go.Proofs.YtfghplfgndppfaaGreatDoor
open Go.Proofs.Tryz
section
open Go.RowKit
theorem Rb(w:World)(g:Nat)(a0 a1 a2 a3 a4 a5 v0 v1 v2 v3 v4 v5:Value)(t:TypeId)(h:w.heap[g]?=some (.cells #[a0,a1,a2,a3,a4,a5] t (0,0))):
 ((((((w.setCell ⟨g,0,none⟩ v0).setCell ⟨g,1,none⟩ v1).setCell ⟨g,2,none⟩ v2).setCell ⟨g,3,none⟩ v3).setCell ⟨g,4,none⟩ v4).setCell ⟨g,5,none⟩ v5).heap[g]?=some (.cells #[v0,v1,v2,v3,v4,v5] t (0,0))/\
 V.af (λx=>x=g) w ((((((w.setCell ⟨g,0,none⟩ v0).setCell ⟨g,1,none⟩ v1).setCell ⟨g,2,none⟩ v2).setCell ⟨g,3,none⟩ v3).setCell ⟨g,4,none⟩ v4).setCell ⟨g,5,none⟩ v5):=by
 refine⟨?_,aoZ _ _ _ _ _ (aoZ _ _ _ _ _ (aoZ _ _ _ _ _ (aoZ _ _ _ _ _ (aoZ _ _ _ _ _ (aoZ _ _ _ _ _ (V.af.refl _ _))))))⟩;have h1:=bM _ g 5 v5 _ _ (bM _ g 4 v4 _ _ (bM _ g 3 v3 _ _ (bM _ g 2 v2 _ _ (bM _ g 1 v1 _ _ (bM w g 0 v0 _ _ h)))));exact h1
def yC(B:Nat)(w:World)(L:List em):Prop:=∀v∈L,Rd w w.heap.size 5 v.A v.m.l.length (bl v.m.l)/\∀k,bW v.A k->B<=k/\k<w.heap.size
theorem yC.up{B:Nat}{w w':World}{L:List em}(h:yC B w L)(hu:aoV w w'):yC B w' L:=λv hv=>⟨(h v hv).1.up hu,λk hk=>⟨((h v hv).2 k hk).1,cg ((h v hv).2 k hk).2 hu.size⟩⟩
theorem yC.Ui{B g5:Nat}{wr ai:World}{L:List em}(h:yC B wr L)(hK:V.af (λx=>wr.heap.size<=x) wr ai):yC B ai L:=λv hv=>⟨(h v hv).1.sW (aZ _) (λh0 a ha hx=>by
 obtain⟨b,o,e,hb,-⟩:=(h v hv).1.2 h0;rw[ha] at e;injection e with e;subst e;exact Nat.lt_irrefl _ (cg hb hx)) hK,λk hk=>⟨((h v hv).2 k hk).1,cg ((h v hv).2 k hk).2 hK.size⟩⟩
theorem ai3(g n at_ id s:Nat)(w:World)(hn:n<=7)(hs:s<=255)(hg:g<w.heap.size)(hc:∃r:Array Value,w.heap[g]?=some (.cells r 130 (0,0))/\r[0]?=some (.int .i64 n)/\r[1]?=some (.int .i64 at_)/\r[2]?=some (.int .u64 id)/\r[3]?=some (.int .i64 3)/\r[4]?=some (.int .i64 s)/\∀j,j<7->r[8+j]?=some (.bool false)):
 Calls prog 50 #[.pointer (some ⟨g,0,none⟩)] w λe w'=>∃R rc L,e= .returned (.slice R n rc)/\w'.ownsRow w.heap.size 135 6 (.slice R n rc) n (dO L)/\L.map (·.m)=(List.range n).map (λz=>(⟨4,at_,z,id,s,[]⟩:eU))/\yC w.heap.size w' L/\aoV w w':=by
 obtain⟨r,hb,pd,r1,r2,r3,iK,j5⟩:=hc;have gQ:∀W,aoV w W->W.cell? ⟨g,0,none⟩=some (.int .i64 n)/\W.cell? ⟨g,1,none⟩=some (.int .i64 at_)/\W.cell? ⟨g,2,none⟩=some (.int .u64 id)/\W.cell? ⟨g,3,none⟩=some (.int .i64 3)/\W.cell? ⟨g,4,none⟩=some (.int .i64 s)/\∀j,j<7->W.cell? ⟨g,8+j,none⟩=some (.bool false):=λW hW=>by
  have h9:=aH hW hb;exact⟨(aoW h9 0).trans pd,(aoW h9 1).trans r1,(aoW h9 2).trans r2,(aoW h9 3).trans r3,(aoW h9 4).trans iK,λj hj=>(aoW h9 _).trans (j5 j hj)⟩
 have bh:=aoU gQ;obtain⟨c0,-⟩:=gQ w (aoV.refl w);clear gQ pd r1 r2 r3 iK j5 hb;go_enter func50,ntmps50
 go_wp2_with fail;go_loopw[3,10] (λout i wr=>∃(k:Nat)(R:Option Addr)(rc:Nat)(L:List em),i= .int .i64 k/\out= .slice R k rc/\k<=n/\wr.ownsRow w.heap.size 135 6 (.slice R k rc) k (dO L)/\Hid (L.map (·.m)=(List.range k).map (λz=>(⟨4,at_,z,id,s,[]⟩:eU)))/\yC w.heap.size wr L/\aoV w wr) (λ_ i _=>n-(intOf i).toNat)
 case atStart=>exact⟨0,none,0,[],rfl,rfl,by omega,fC _ _ _ _,rfl,(λv hv=>by cases hv),aoV.refl _⟩
 case round=>
  obtain⟨k,R,rc,L,rfl,rfl,hk,hown,hL,hnew,hu⟩:=hrel;by_cases hlt:k<n
  .have hkn:decide (k<n)=true:=by rw[lw];exact hlt
   have mJ:=aoU hnew;have vB:=aoU hown;clear hnew hown c0;go_wp2_with fail;apply V.iE (λi vs W=>aoV wr W/\(i=1->∃g5,vs 10= .pointer (some ⟨g5,0,none⟩)/\wr.heap.size<=g5/\W.heap[g5]?=some (.cells #[.int .i64 0,.int .i64 0,.int .i64 0,.int .u64 0,.int .u64 0,.slice none 0 0] 135 (0,0)))/\
    (i=2->∃g5,vs 10= .pointer (some ⟨g5,0,none⟩)/\wr.heap.size<=g5/\W.heap[g5]?=some (.cells #[.int .i64 1,.int .i64 at_,.int .i64 k,.int .u64 id,.int .u64 0,.slice none 0 0] 135 (0,0)))) (by kernel_rfl) (by kernel_rfl) (λvs=>⟨aoV.drew (aoV.refl wr),λe=>absurd e (by decide),λe=>absurd e (by decide)⟩)
   .intro aF aoX;iterate 3 (apply V.az.ok;intros;go_simp;rfl;rfl;go_frame)
    apply V.az.ok
    .intro i vs ag hS;obtain⟨-,c1,-⟩:=bh.out ag (hu.trans hS.1);clear hS;go_simp
     with_reducible rfl
    .rfl
    simp only[au,Nat.reduceAdd];iterate 4 (apply V.az.ok;intros;go_simp;rfl;rfl;go_frame)
    apply V.az.ok
    .intro i vs ag hS;obtain⟨-,-,c2,-⟩:=bh.out ag (hu.trans hS.1);clear hS;go_simp
     with_reducible rfl
    .rfl
    simp only[au,Nat.reduceAdd];iterate 1 (apply V.az.ok;intros;go_simp;rfl;rfl;go_frame)
    apply V.az.cG;rfl
    .intro vs ag hS cY ah;obtain⟨k1,-⟩:=hS;go_simp;exact ah.out _ _ ⟨k1.alloc _,λ_=>⟨ag.heap.size,by rw[V.eV],k1.size,bp ag _⟩,λe=>absurd e (by decide)⟩
    simp only[au,Nat.reduceAdd];apply V.az.call undef;rfl
    .intro vs ag hS cY ah;obtain⟨k1,k2,-⟩:=hS;obtain⟨g5,hv,hge,hh⟩:=k2 rfl;have h6:=Rb ag g5 _ _ _ _ _ _ (.int .i64 1) (.int .i64 at_) (.int .i64 k) (.int .u64 id) (.int .u64 0) (.slice none 0 0) _ hh;have t0:=aoW hh 0;have jd:=ay hh 0;have t1:=aoW hh 1;have s1:=ay hh 1;have t2:=aoW hh 2;have s2:=ay hh 2;have t3:=aoW hh 3;have s3:=ay hh 3;have t4:=aoW hh 4;have dP:=ay hh 4;have t5:=aoW hh 5;have jy:=ay hh 5;have aS:=ah.out _ ⟨gy.up k1 h6.2 hge,λe=>absurd e (by decide),λ_=>⟨g5,hv,hge,h6.1⟩⟩;have aK:=aoU aS
     clear aS ah h6 hh
     (try dsimp only at aK|-)
     rw[hv] at aK|-;clear hv;go_simp;exact aK.out
    simp only[au,Nat.reduceAdd];apply V.az.fin;intro vs ag hS;obtain⟨k1,-,aY⟩:=hS;obtain⟨g5,hv,hge,hh⟩:=aY rfl;refine aoX.out _ _ ?_;clear aoX aY
    (try dsimp only)
    rw[hv];clear hv;obtain⟨-,-,-,c3,c4,-⟩:=bh.out ag (hu.trans k1);have hs1:IntKind.u64.wrap (s:Int)=(s:Int):=IntWalk.u64_in _ (by omega);have ot:=hu.trans k1;have eh:w.heap.size<=g5:=bQ hu.size hge;have Uj:=aoU hh;have C0:=el vB.out k1;have c8:=mJ.out.up k1;have Kn:=aoU C0;have ai4:=aoU c8;have Uk:¬bg R g5:=λh=>by
     obtain⟨a,rfl,rfl⟩:=h;have:=(jO vB.out a.block rfl).2;omega
    clear C0 c8 hh;go_wp2_with fail;apply V.iE (λi vs W=>V.af (λx=>x=g5) ag W/\aoV w W/\(i=0->W.heap[g5]?=some (.cells #[.int .i64 1,.int .i64 at_,.int .i64 k,.int .u64 id,.int .u64 0,.slice none 0 0] 135 (0,0)))/\
     (i=1->W.heap[g5]?=some (.cells #[.int .i64 4,.int .i64 at_,.int .i64 k,.int .u64 id,.int .u64 0,.slice none 0 0] 135 (0,0)))/\
     (i=2->W.heap[g5]?=some (.cells #[.int .i64 4,.int .i64 at_,.int .i64 k,.int .u64 id,.int .u64 s,.slice none 0 0] 135 (0,0)))) (by kernel_rfl) (by kernel_rfl) (λvs=>⟨V.af.co (aoV.drew (aoV.refl ag)),aoV.drew ot,λ_=>aH (aoV.drew (aoV.refl ag)) Uj.out,λe=>absurd e (by decide),λe=>absurd e (by decide)⟩)
    .intro aF aoX;iterate 4 (apply V.az.ok;intros;go_simp;rfl;rfl;go_frame)
     apply V.az.ok
     .intro i vs ai hS;obtain⟨-,-,-,-,c4,-⟩:=bh.out ai hS.2.1;clear hS;go_simp
      with_reducible rfl
     .rfl
     simp only[au,Nat.reduceAdd];iterate 2 (apply V.az.ok;intros;go_simp;rfl;rfl;go_frame)
     apply V.az.call undef;rfl
     .intro vs ai hS cY ah;obtain⟨j1,j2,dL,-⟩:=hS;have dL:=dL rfl;have t0:=aoW dL 0;have jd:=ay dL 0;have bC:=bM ai g5 0 (.int .i64 4) _ _ dL;have kQ:V.af (λx=>x=g5) ai (ai.setCell ⟨g5,0,none⟩ (.int .i64 4)):=aoZ _ _ g5 0 _ (V.af.refl _ _);have aS:=ah.out _ ⟨ci j1 kQ,gy.up j2 kQ eh,λe=>absurd e (by decide),λ_=>bC,λe=>absurd e (by decide)⟩;have aK:=aoU aS;clear aS ah dL bC;go_simp;exact aK.out
     simp only[au,Nat.reduceAdd];iterate 1 (apply V.az.ok;intros;go_simp;rfl;rfl;go_frame)
     apply V.az.call undef;rfl
     .intro vs ai hS cY ah;obtain⟨j1,j2,-,dL,-⟩:=hS;have dL:=dL rfl;have t0:=aoW dL 4;have jd:=ay dL 4;have bC:=bM ai g5 4 (.int .u64 s) _ _ dL;have kQ:V.af (λx=>x=g5) ai (ai.setCell ⟨g5,4,none⟩ (.int .u64 s)):=aoZ _ _ g5 4 _ (V.af.refl _ _);have aS:=ah.out _ ⟨ci j1 kQ,gy.up j2 kQ eh,λe=>absurd e (by decide),λe=>absurd e (by decide),λ_=>bC⟩;have aK:=aoU aS;clear aS ah dL bC;go_simp;exact aK.out
     simp only[au,Nat.reduceAdd];apply V.az.fin;intro vs ai hS;obtain⟨j1,j2,-,-,dL⟩:=hS;have dL:=dL rfl;refine aoX.out _ _ ?_;clear aoX
     (try dsimp only)
     have uV:=(bh.out ai j2).2.2.2.2.2 k (by omega);obtain⟨d0,d1,d2,d3,d4,d5⟩:=iQ dL;have Oj:(k:Int)<7:=by omega
     have Ok:k<7:=by omega
     have dN:=iC Kn.out j1 (λy hy e=>Uk (by have e:y=g5:=e;rw[<- e];exact hy));have Ko:yC w.heap.size ai L:=mJ.out.Ui (g5:=g5) (ci (V.af.co k1) (eQ j1 (λy hy=>by have e:y=g5:=hy;omega)));have yh:nX ⟨⟨4,at_,k,id,s,[]⟩,none,0⟩= [.int .i64 4,.int .i64 at_,.int .i64 k,.int .u64 id,.int .u64 s,.slice none 0 0]:=rfl;have LX:=aoU Ko;have Yo:=aoU yh;have jW:=wt ai #[.int .i64 4,.int .i64 at_,.int .i64 k,.int .u64 id,.int .u64 s,.slice none 0 0] 135 (base:=0) (sz:=6) (n:=1) (Nat.zero_le _) rfl (by omega);have hrd:=Rd.own jW
     clear Ko yh Kn ai4 jW;go_wp2_with (at_builtin;refine iF _ QW (lu dN _) hrd (MI ⟨⟨4,at_,k,id,s,[]⟩,none,0⟩) (by omega) (by omega) (by have:=j2.size;simp;omega) rfl rfl rfl rfl ?_;intro v6 cH jw fW t8;obtain⟨pa,d6,rfl⟩:=eL jw)
     have eZ:aoV w cH:=(j2.alloc _).grown fW (λgg Kp=>(jO dN gg Kp).1);refine⟨⟨k+1,pa,d6,L++[⟨⟨4,at_,k,id,s,[]⟩,none,0⟩],by go_num,rfl,by omega,?_,?_,?_,eZ⟩,by simp[intOf];omega⟩
     .rw[MH];have e:dO [⟨⟨4,at_,k,id,s,[]⟩,none,0⟩]=nX ⟨⟨4,at_,k,id,s,[]⟩,none,0⟩:=by simp[dO]
      rw[e];exact jw
     .show(L++[(⟨⟨4,at_,k,id,s,[]⟩,none,0⟩:em)]).map (λx=>x.m)=_;rw[kU,hL.out,List.range_succ,kU];rfl
     .intro v hv;rcases List.mem_append.1 hv with hv|hv
      .have gU:V.af (λy=>bW R y) (ai.alloc (.cells #[.int .i64 4,.int .i64 at_,.int .i64 k,.int .u64 id,.int .u64 s,.slice none 0 0] 135)) cH:=qZ (lu dN _) fW;have h1:=(LX.out v hv)
       have Jn:ai.heap.size<=cH.heap.size:=bQ ((aoV.refl ai).alloc _).size gU.size;refine⟨(h1.1.up ((aoV.refl ai).alloc _)).sW (aZ _) (λh0 a ha hx=>?_) gU,λk hk=>⟨(h1.2 k hk).1,cg (h1.2 k hk).2 Jn⟩⟩;have h2:v.m∈L.map (λx=>x.m):=List.mem_map.2 ⟨v,hv,rfl⟩;rw[hL.out] at h2;obtain⟨z,-,h3⟩:=List.mem_map.1 h2;rw[<- h3] at h0;exact Nat.lt_irrefl _ h0
      .rw[fi] at hv;subst hv;exact⟨Rd.empty,λk hk=>by obtain⟨a,ha,-⟩:=hk;cases ha⟩
    .kernel_rfl
   .kernel_rfl
  .obtain rfl:k=n:=by omega
   have hkn:decide (k<k)=false:=by rw[iO];omega
   have mJ:=aoU hnew;have vB:=aoU hown;clear hnew hown;go_wp2_with fail;go_ret;exact⟨R,rc,L,rfl,vB.out,hL.out,mJ.out,hu⟩
def DW(B:Nat)(w:World)(L:List em):Prop:=∀v∈L,Rd w w.heap.size 5 v.A v.m.l.length (bl v.m.l)/\∀k,bW v.A k->B<=k/\∃cs z,w.heap[k]?=some (.cells cs 37 z)
theorem DW.Ui{B:Nat}{wr ai:World}{L:List em}(h:DW B wr L)(hK:V.af (λx=>wr.heap.size<=x) wr ai):DW B ai L:=λv hv=>⟨(h v hv).1.sW (aZ _) (λh0 a ha hx=>by
 obtain⟨b,o,e,hb,-⟩:=(h v hv).1.2 h0;rw[ha] at e;injection e with e;subst e;exact Nat.lt_irrefl _ (cg hb hx)) hK,λk hk=>by
 obtain⟨h1,cs,z,h2⟩:=(h v hv).2 k hk;have hl:=aB h2;exact⟨h1,cs,z,(hK.block k hl (by omega)).trans h2⟩⟩
theorem Rd.ai5{w:World}{ko:Nat}{it:aC}{t:TypeId}(h:w.heap[ko]?=some (.cells #[.int .i64 it.s.toInt,.int .i64 it.k.toInt,.int .u64 it.t.toNat,.int .u64 it.v.toNat,.int .i64 it.x.toInt] t (0,0))):Rd w w.heap.size 5 (some ⟨ko,0,none⟩) 1 (bl [it]):=
 ⟨by rw[P5];rfl,λ_=>⟨ko,0,rfl,(aB h),λj u hu=>by
  rw[dV,aoW h,<- Array.getElem?_toList];exact hu⟩⟩
theorem ai6(g n at_ id:Nat)(it:aC)(w:World)(hn:n<=7)(hg:g<w.heap.size)(hc:∃r:Array Value,w.heap[g]?=some (.cells r 130 (0,0))/\r[0]?=some (.int .i64 n)/\r[1]?=some (.int .i64 at_)/\r[2]?=some (.int .u64 id)/\r[3]?=some (.int .i64 1)/\r[4]?=some (.int .i64 it.s.toInt)/\r[5]?=some (.int .u64 it.t.toNat)/\r[6]?=some (.int .i64 it.x.toInt)/\r[7]?=some (.int .u64 it.v.toNat)/\it.k.toInt=2/\∀j,j<7->r[8+j]?=some (.bool false)):
 Calls prog 50 #[.pointer (some ⟨g,0,none⟩)] w λe w'=>∃R rc L,e= .returned (.slice R n rc)/\w'.ownsRow w.heap.size 135 6 (.slice R n rc) n (dO L)/\L.map (·.m)=(List.range n).map (λz=>(⟨1,at_,z,id,0,[it]⟩:eU))/\DW w.heap.size w' L/\aoV w w':=by
 obtain⟨r,hb,pd,r1,r2,r3,iK,ki,iV,apb,hk2,j5⟩:=hc;have gQ:∀W,aoV w W->W.cell? ⟨g,0,none⟩=some (.int .i64 n)/\W.cell? ⟨g,1,none⟩=some (.int .i64 at_)/\W.cell? ⟨g,2,none⟩=some (.int .u64 id)/\W.cell? ⟨g,3,none⟩=some (.int .i64 1)/\W.cell? ⟨g,4,none⟩=some (.int .i64 it.s.toInt)/\W.cell? ⟨g,5,none⟩=some (.int .u64 it.t.toNat)/\W.cell? ⟨g,6,none⟩=some (.int .i64 it.x.toInt)/\W.cell? ⟨g,7,none⟩=some (.int .u64 it.v.toNat)/\∀j,j<7->W.cell? ⟨g,8+j,none⟩=some (.bool false):=λW hW=>by
  have h9:=aH hW hb;exact⟨(aoW h9 0).trans pd,(aoW h9 1).trans r1,(aoW h9 2).trans r2,(aoW h9 3).trans r3,(aoW h9 4).trans iK,(aoW h9 5).trans ki,(aoW h9 6).trans iV,(aoW h9 7).trans apb,λj hj=>(aoW h9 _).trans (j5 j hj)⟩
 have bh:=aoU gQ;obtain⟨c0,-⟩:=gQ w (aoV.refl w);have uI:=aoU hk2;clear gQ pd r1 r2 r3 iK ki iV apb j5 hb hk2;go_enter func50,ntmps50
 go_wp2_with fail;go_loopw[3,10] (λout i wr=>∃(k:Nat)(R:Option Addr)(rc:Nat)(L:List em),i= .int .i64 k/\out= .slice R k rc/\k<=n/\wr.ownsRow w.heap.size 135 6 (.slice R k rc) k (dO L)/\Hid (L.map (·.m)=(List.range k).map (λz=>(⟨1,at_,z,id,0,[it]⟩:eU)))/\DW w.heap.size wr L/\aoV w wr) (λ_ i _=>n-(intOf i).toNat)
 case atStart=>exact⟨0,none,0,[],rfl,rfl,by omega,fC _ _ _ _,rfl,(λv hv=>by cases hv),aoV.refl _⟩
 case round=>
  obtain⟨k,R,rc,L,rfl,rfl,hk,hown,hL,hnew,hu⟩:=hrel;by_cases hlt:k<n
  .have hkn:decide (k<n)=true:=by rw[lw];exact hlt
   have mJ:=aoU hnew;have vB:=aoU hown;clear hnew hown c0;go_wp2_with fail;apply V.iE (λi vs W=>aoV wr W/\(i=1->∃g5,vs 10= .pointer (some ⟨g5,0,none⟩)/\wr.heap.size<=g5/\W.heap[g5]?=some (.cells #[.int .i64 0,.int .i64 0,.int .i64 0,.int .u64 0,.int .u64 0,.slice none 0 0] 135 (0,0)))/\
    (i=2->∃g5,vs 10= .pointer (some ⟨g5,0,none⟩)/\wr.heap.size<=g5/\W.heap[g5]?=some (.cells #[.int .i64 1,.int .i64 at_,.int .i64 k,.int .u64 id,.int .u64 0,.slice none 0 0] 135 (0,0)))) (by kernel_rfl) (by kernel_rfl) (λvs=>⟨aoV.drew (aoV.refl wr),λe=>absurd e (by decide),λe=>absurd e (by decide)⟩)
   .intro aF aoX;iterate 3 (apply V.az.ok;intros;go_simp;rfl;rfl;go_frame)
    apply V.az.ok
    .intro i vs ag hS;obtain⟨-,c1,-⟩:=bh.out ag (hu.trans hS.1);clear hS;go_simp
     with_reducible rfl
    .rfl
    simp only[au,Nat.reduceAdd];iterate 4 (apply V.az.ok;intros;go_simp;rfl;rfl;go_frame)
    apply V.az.ok
    .intro i vs ag hS;obtain⟨-,-,c2,-⟩:=bh.out ag (hu.trans hS.1);clear hS;go_simp
     with_reducible rfl
    .rfl
    simp only[au,Nat.reduceAdd];iterate 1 (apply V.az.ok;intros;go_simp;rfl;rfl;go_frame)
    apply V.az.cG;rfl
    .intro vs ag hS cY ah;obtain⟨k1,-⟩:=hS;go_simp;exact ah.out _ _ ⟨k1.alloc _,λ_=>⟨ag.heap.size,by rw[V.eV],k1.size,bp ag _⟩,λe=>absurd e (by decide)⟩
    simp only[au,Nat.reduceAdd];apply V.az.call undef;rfl
    .intro vs ag hS cY ah;obtain⟨k1,k2,-⟩:=hS;obtain⟨g5,hv,hge,hh⟩:=k2 rfl;have h6:=Rb ag g5 _ _ _ _ _ _ (.int .i64 1) (.int .i64 at_) (.int .i64 k) (.int .u64 id) (.int .u64 0) (.slice none 0 0) _ hh;have t0:=aoW hh 0;have jd:=ay hh 0;have t1:=aoW hh 1;have s1:=ay hh 1;have t2:=aoW hh 2;have s2:=ay hh 2;have t3:=aoW hh 3;have s3:=ay hh 3;have t4:=aoW hh 4;have dP:=ay hh 4;have t5:=aoW hh 5;have jy:=ay hh 5;have aS:=ah.out _ ⟨gy.up k1 h6.2 hge,λe=>absurd e (by decide),λ_=>⟨g5,hv,hge,h6.1⟩⟩;have aK:=aoU aS
     clear aS ah h6 hh
     (try dsimp only at aK|-)
     rw[hv] at aK|-;clear hv;go_simp;exact aK.out
    simp only[au,Nat.reduceAdd];apply V.az.fin;intro vs ag hS;obtain⟨k1,-,aY⟩:=hS;obtain⟨g5,hv,hge,hh⟩:=aY rfl;refine aoX.out _ _ ?_;clear aoX aY
    (try dsimp only)
    rw[hv];clear hv;obtain⟨-,-,-,c3,c4,-⟩:=bh.out ag (hu.trans k1);have ot:=hu.trans k1;have eh:w.heap.size<=g5:=bQ hu.size hge;have Uj:=aoU hh;have Kn:=aoU (el vB.out k1);have Uk:¬bg R g5:=λh=>by
     obtain⟨a,rfl,rfl⟩:=h;have:=(jO vB.out a.block rfl).2;omega
    have eD:g5<ag.heap.size:=aB hh;clear hh c3 c4;have c3:=(bh.out ag ot).2.2.2.1;have hit:=λW=>acE it.s.toInt (it.t.toNat:Int) (it.v.toNat:Int) it.x.toInt W
    rw[<- uI.out] at hit;have zb:=aoU hit;clear hit;go_wp2_with fail;apply V.iE (λi vs W=>V.af (λx=>x=g5) ag W/\aoV w W/\(i<=2->W.heap[g5]?=some (.cells #[.int .i64 1,.int .i64 at_,.int .i64 k,.int .u64 id,.int .u64 0,.slice none 0 0] 135 (0,0)))/\
     (i=2->∃ko,vs 9= .slice (some ⟨ko,0,none⟩) 1 1/\ag.heap.size<=ko/\W.heap[ko]?=some (.cells #[.int .i64 it.s.toInt,.int .i64 it.k.toInt,.int .u64 it.t.toNat,.int .u64 it.v.toNat,.int .i64 it.x.toInt] 37 (0,0)))/\
     (i=3->∃ko,W.heap[g5]?=some (.cells #[.int .i64 1,.int .i64 at_,.int .i64 k,.int .u64 id,.int .u64 0,.slice (some ⟨ko,0,none⟩) 1 1] 135 (0,0))/\ag.heap.size<=ko/\W.heap[ko]?=some (.cells #[.int .i64 it.s.toInt,.int .i64 it.k.toInt,.int .u64 it.t.toNat,.int .u64 it.v.toNat,.int .i64 it.x.toInt] 37 (0,0)))) (by kernel_rfl) (by kernel_rfl) (λvs=>⟨V.af.co (aoV.drew (aoV.refl ag)),aoV.drew ot,λ_=>aH (aoV.drew (aoV.refl ag)) Uj.out,λe=>absurd e (by decide),λe=>absurd e (by decide)⟩)
    .intro aF aoX;iterate 3 (apply V.az.ok;intros;go_simp;rfl;rfl;go_frame)
     apply V.az.ok
     .intro i vs ai hS;obtain⟨-,-,-,c3,c4,c5,gF,-⟩:=bh.out ai hS.2.1;clear hS;go_simp
      with_reducible rfl
     .rfl
     simp only[au,Nat.reduceAdd];iterate 3 (apply V.az.ok;intros;go_simp;rfl;rfl;go_frame)
     apply V.az.ok
     .intro i vs ai hS;obtain⟨-,-,-,-,-,-,-,pz,-⟩:=bh.out ai hS.2.1;clear hS;go_simp
      with_reducible rfl
     .rfl
     simp only[au,Nat.reduceAdd];apply V.az.call (.agg #[.int .i64 it.s.toInt,.int .i64 it.k.toInt,.int .u64 it.t.toNat,.int .u64 it.v.toNat,.int .i64 it.x.toInt]);rfl
     .intro vs ai hS cY ah;obtain⟨j1,j2,dL,-⟩:=hS;go_simp;refine(zb.out ai).mono ?_;rintro e cH⟨rfl,eZ⟩;exact ah.out _ ⟨ci j1 (V.af.co eZ),j2.trans eZ,λ_=>aH eZ (dL (by decide)),λe=>absurd e (by decide),λe=>absurd e (by decide)⟩
     simp only[au,Nat.reduceAdd];apply V.az.cG;rfl
     .intro vs ai hS cY ah;obtain⟨j1,j2,dL,-⟩:=hS;have dL:=dL (by decide);have hal:=(aoV.refl ai).alloc (.cells #[.int .i64 it.s.toInt,.int .i64 it.k.toInt,.int .u64 it.t.toNat,.int .u64 it.v.toNat,.int .i64 it.x.toInt] 37);have aS:=ah.out (.slice (some ⟨ai.heap.size,0,none⟩) 1 1) _ ⟨ci j1 (V.af.co hal),j2.trans hal,λ_=>aH hal dL,λ_=>⟨ai.heap.size,by rw[V.eV],j1.size,bp ai _⟩,λe=>absurd e (by decide)⟩;have aK:=aoU aS;clear aS ah dL;go_simp;exact aK.out
     simp only[au,Nat.reduceAdd];iterate 1 (apply V.az.ok;intros;go_simp;rfl;rfl;go_frame)
     apply V.az.call undef;rfl
     .intro vs ai hS cY ah;obtain⟨j1,j2,dL,P7,-⟩:=hS;have dL:=dL (by decide);obtain⟨ko,hv,ub,Gu⟩:=P7 rfl;have t0:=aoW dL 5;have jd:=ay dL 5;have bC:=bM ai g5 5 (.slice (some ⟨ko,0,none⟩) 1 1) _ _ dL;have kQ:V.af (λx=>x=g5) ai (ai.setCell ⟨g5,5,none⟩ (.slice (some ⟨ko,0,none⟩) 1 1)):=aoZ _ _ g5 5 _ (V.af.refl _ _);have aS:=ah.out _ ⟨ci j1 kQ,gy.up j2 kQ eh,λe=>absurd e (by decide),λe=>absurd e (by decide),λ_=>⟨ko,bC,ub,(kQ.block ko (aB Gu) (by intro e;have e:ko=g5:=e;omega)).trans Gu⟩⟩
      have aK:=aoU aS;clear aS ah dL bC Gu
      (try dsimp only at aK|-)
      rw[hv] at aK|-;clear hv;go_simp;exact aK.out
     simp only[au,Nat.reduceAdd];apply V.az.fin;intro vs ai hS;obtain⟨j1,j2,-,-,dL⟩:=hS;obtain⟨ko,ai7,ub,Gu⟩:=dL rfl;refine aoX.out _ _ ?_;clear aoX dL
     (try dsimp only)
     have uV:=(bh.out ai j2).2.2.2.2.2.2.2.2 k (by omega);obtain⟨d0,d1,d2,d3,d4,d5⟩:=iQ ai7;have Oj:(k:Int)<7:=by omega
     have Ok:k<7:=by omega
     have dN:=iC Kn.out j1 (λy hy e=>Uk (by have e:y=g5:=e;rw[<- e];exact hy));have Ko:DW w.heap.size ai L:=mJ.out.Ui (ci (V.af.co k1) (eQ j1 (λy hy=>by have e:y=g5:=hy;omega)));have LX:=aoU Ko;have ai8:=aoU Gu;have jW:=wt ai #[.int .i64 1,.int .i64 at_,.int .i64 k,.int .u64 id,.int .u64 0,.slice (some ⟨ko,0,none⟩) 1 1] 135 (base:=0) (sz:=6) (n:=1) (Nat.zero_le _) rfl (by omega);have hrd:=Rd.own jW;clear Ko Kn jW Gu
     go_wp2_with (at_builtin;refine iF _ QW (lu dN _) hrd (MI ⟨⟨1,at_,k,id,0,[it]⟩,some ⟨ko,0,none⟩,1⟩) (by omega) (by omega) (by have:=j2.size;simp;omega) rfl rfl rfl rfl ?_;intro v6 cH jw fW t8;obtain⟨pa,d6,rfl⟩:=eL jw)
     have eZ:aoV w cH:=(j2.alloc _).grown fW (λgg Kp=>(jO dN gg Kp).1);have hal:aoV ai (ai.alloc (.cells #[.int .i64 1,.int .i64 at_,.int .i64 k,.int .u64 id,.int .u64 0,.slice (some ⟨ko,0,none⟩) 1 1] 135)):=(aoV.refl ai).alloc _;have gU:V.af (λy=>bW R y) (ai.alloc (.cells #[.int .i64 1,.int .i64 at_,.int .i64 k,.int .u64 id,.int .u64 0,.slice (some ⟨ko,0,none⟩) 1 1] 135)) cH:=qZ (lu dN _) fW;have hM:∀(y:Nat)(cs:Array Value)(z:Nat×Nat),ai.heap[y]?=some (.cells cs 37 z)->¬bW R y:=λy cs z h1 h2=>by
      obtain⟨cs',z',h3⟩:=iL dN h2;exact absurd (cS h1 h3) (by decide)
     have hkeep:∀(y:Nat)(cs:Array Value)(z:Nat×Nat),ai.heap[y]?=some (.cells cs 37 z)->cH.heap[y]?=some (.cells cs 37 z):=λy cs z h1=>by
      have h2:=aH hal h1;exact(gU.block y (aB h2) (hM y cs z h1)).trans h2
     refine⟨⟨k+1,pa,d6,L++[⟨⟨1,at_,k,id,0,[it]⟩,some ⟨ko,0,none⟩,1⟩],by go_num,rfl,by omega,?_,?_,?_,eZ⟩,by simp[intOf];omega⟩
     .rw[MH];have e:dO [⟨⟨1,at_,k,id,0,[it]⟩,some ⟨ko,0,none⟩,1⟩]=nX ⟨⟨1,at_,k,id,0,[it]⟩,some ⟨ko,0,none⟩,1⟩:=by simp[dO]
      rw[e];exact jw
     .show(L++[(⟨⟨1,at_,k,id,0,[it]⟩,some ⟨ko,0,none⟩,1⟩:em)]).map (λx=>x.m)=_;rw[kU,hL.out,List.range_succ,kU];rfl
     .intro v hv;rcases List.mem_append.1 hv with hv|hv
      .have h1:=LX.out v hv;refine⟨(h1.1.up hal).sW (aZ _) (λh0 a ha hx=>?_) gU,λy hy=>?_⟩
       .obtain⟨-,cs,z,h2⟩:=h1.2 a.block ⟨a,ha,rfl⟩;exact hM _ _ _ h2 hx
       .obtain⟨h3,cs,z,h2⟩:=h1.2 y hy;exact⟨h3,cs,z,hkeep _ _ _ h2⟩
      .rw[fi] at hv;subst hv;have R3:=hkeep _ _ _ ai8.out;refine⟨Rd.ai5 R3,λy hy=>?_⟩;obtain⟨a,ha,rfl⟩:=hy;injection ha with ha;subst ha;exact⟨by have:=ot.size;show w.heap.size<=ko;omega,_,_,R3⟩
    .kernel_rfl
   .kernel_rfl
  .obtain rfl:k=n:=by omega
   have hkn:decide (k<k)=false:=by rw[iO];omega
   have mJ:=aoU hnew;have vB:=aoU hown;clear hnew hown;go_wp2_with fail;go_ret;exact⟨R,rc,L,rfl,vB.out,hL.out,mJ.out,hu⟩
theorem ai9(g n at_ id:Nat)(it:aC)(w:World)(hn:n<=7)(hk2:it.k.toInt=2)(r:Array Value)(hb:w.heap[g]?=some (.cells r 130 (0,0)))(pd:r[0]?=some (.int .i64 n))(r1:r[1]?=some (.int .i64 at_))(r2:r[2]?=some (.int .u64 id))(r3:r[3]?=some (.int .i64 1))(iK:r[4]?=some (.int .i64 it.s.toInt))(ki:r[5]?=some (.int .u64 it.t.toNat))(iV:r[6]?=some (.int .i64 it.x.toInt))(apb:r[7]?=some (.int .u64 it.v.toNat)):
 Calls prog 27 #[.pointer (some ⟨g,0,none⟩)] w λe w'=>∃R rc L,e= .returned (.slice R n rc)/\w'.ownsRow w.heap.size 135 6 (.slice R n rc) n (dO L)/\L.map (·.m)=(List.range n).map (λz=>(⟨1,at_,z,id,0,[it]⟩:eU))/\DW w.heap.size w' L/\aoV w w':=by
 have hC:∀W,aoV w W->W.cell? ⟨g,0,none⟩=some (.int .i64 n)/\W.cell? ⟨g,1,none⟩=some (.int .i64 at_)/\W.cell? ⟨g,2,none⟩=some (.int .u64 id)/\W.cell? ⟨g,3,none⟩=some (.int .i64 1)/\W.cell? ⟨g,4,none⟩=some (.int .i64 it.s.toInt)/\W.cell? ⟨g,5,none⟩=some (.int .u64 it.t.toNat)/\W.cell? ⟨g,6,none⟩=some (.int .i64 it.x.toInt)/\W.cell? ⟨g,7,none⟩=some (.int .u64 it.v.toNat):=λW hW=>by
  have h9:=aH hW hb;exact⟨(aoW h9 0).trans pd,(aoW h9 1).trans r1,(aoW h9 2).trans r2,(aoW h9 3).trans r3,(aoW h9 4).trans iK,(aoW h9 5).trans ki,(aoW h9 6).trans iV,(aoW h9 7).trans apb⟩
 have bh:=aoU hC;have uI:=aoU hk2;clear hC hk2 hb pd r1 r2 r3 iK ki iV apb;go_enter func27,ntmps27
 go_wp2_with fail
 apply V.iE (λi vs W=>aoV w W/\(i=1->∃g2,vs 21= .pointer (some ⟨g2,0,none⟩)/\W.heap[g2]?=some (.cells #[.int .i64 n,.int .i64 at_,.int .u64 id,.int .i64 1,.int .i64 it.s.toInt,.int .u64 it.t.toNat,.int .i64 it.x.toInt,.int .u64 it.v.toNat,.bool false,.bool false,.bool false,.bool false,.bool false,.bool false,.bool false,.int .i64 0,.slice none 0 0,.int .i64 0,.int .u32 0,.int .i32 0,.int .u32 0,.int .u64 0,.int .i64 0,.int .i64 0,.int .u64 0,.int .i64 0,.int .i64 0,.int .u64 0,.slice none 0 0,.bool false] 130 (0,0)))/\(i=2->∃g2,vs 22= .pointer (some ⟨g2,0,none⟩)/\W.heap[g2]?=some (.cells #[.int .i64 n,.int .i64 at_,.int .u64 id,.int .i64 1,.int .i64 it.s.toInt,.int .u64 it.t.toNat,.int .i64 it.x.toInt,.int .u64 it.v.toNat,.bool false,.bool false,.bool false,.bool false,.bool false,.bool false,.bool false,.int .i64 0,.slice none 0 0,.int .i64 0,.int .u32 0,.int .i32 0,.int .u32 0,.int .u64 0,.int .i64 0,.int .i64 0,.int .u64 0,.int .i64 0,.int .i64 0,.int .u64 0,.slice none 0 0,.bool false] 130 (0,0)))) (by kernel_rfl) (by kernel_rfl) (λvs=>⟨aoV.drew (aoV.refl w),λe=>absurd e (by decide),λe=>absurd e (by decide)⟩)
 .intro aF aoX;iterate 21 (apply V.az.ok;(· intro i vs ag hS;obtain⟨c0,c1,c2,c3,c4,c5,gF,pz⟩:=bh.out ag hS.1;clear hS;go_simp;(try with_reducible rfl));(· rfl);simp only[au,Nat.reduceAdd])
  apply V.az.cG;rfl
  .intro vs ag hS cY ah;obtain⟨k1,-⟩:=hS
   have aS:=ah.out (.pointer (some ⟨ag.heap.size,0,none⟩)) (ag.alloc (.cells #[.int .i64 n,.int .i64 at_,.int .u64 id,.int .i64 1,.int .i64 it.s.toInt,.int .u64 it.t.toNat,.int .i64 it.x.toInt,.int .u64 it.v.toNat,.bool false,.bool false,.bool false,.bool false,.bool false,.bool false,.bool false,.int .i64 0,.slice none 0 0,.int .i64 0,.int .u32 0,.int .i32 0,.int .u32 0,.int .u64 0,.int .i64 0,.int .i64 0,.int .u64 0,.int .i64 0,.int .i64 0,.int .u64 0,.slice none 0 0,.bool false] 130)) ⟨k1.alloc _,λ_=>⟨ag.heap.size,by rw[V.eV],bp ag _⟩,λe=>absurd e (by decide)⟩
   have aK:=aoU aS;clear aS ah;go_simp;exact aK.out
  simp only[au,Nat.reduceAdd];apply V.az.cG;rfl
  .intro vs ag hS cY ah;obtain⟨k1,k2,-⟩:=hS;obtain⟨g2,hv,hh⟩:=k2 rfl;have aS:=ah.out (.pointer (some ⟨g2,0,none⟩)) ag ⟨k1,λe=>absurd e (by decide),λ_=>⟨g2,by rw[V.eV],hh⟩⟩;have aK:=aoU aS;clear aS ah hh
   (try dsimp only at aK|-)
   rw[hv] at aK|-;clear hv;go_simp;exact aK.out
  simp only[au,Nat.reduceAdd];apply V.az.fin;intro vs ag hS;obtain⟨k1,-,k2⟩:=hS;obtain⟨g2,hv,hh⟩:=k2 rfl;refine aoX.out _ _ ?_;clear aoX k2
  (try dsimp only)
  rw[hv];clear hv;have hp:=ai6 g2 n at_ id it ag hn (aB hh) ⟨_,hh,rfl,rfl,rfl,rfl,rfl,rfl,rfl,rfl,uI.out,λj hj=>by
   rcases j with _|_|_|_|_|_|_|j <;>first|rfl|omega⟩
  have ib:=aoU hp;clear hp hh;go_wp2_with fail;refine ib.out.mono ?_;rintro e ai⟨R,rc,L,rfl,h1,h2,h3,h4⟩;go_wp2_with fail;go_ret;exact⟨R,rc,L,rfl,jP h1 k1.size,h2,(λv hv=>⟨(h3 v hv).1,λk hk=>⟨bQ k1.size ((h3 v hv).2 k hk).1,((h3 v hv).2 k hk).2⟩⟩),k1.trans h4⟩
 .kernel_rfl
theorem ai'(g n at_ id s:Nat)(w:World)(hn:n<=7)(hs:s<=255)(r:Array Value)(hb:w.heap[g]?=some (.cells r 130 (0,0)))(pd:r[0]?=some (.int .i64 n))(r1:r[1]?=some (.int .i64 at_))(r2:r[2]?=some (.int .u64 id))(r3:r[3]?=some (.int .i64 3))(iK:r[4]?=some (.int .i64 s))(ki:r[5]?=some (.int .u64 0))(iV:r[6]?=some (.int .i64 0))(apb:r[7]?=some (.int .u64 0)):
 Calls prog 27 #[.pointer (some ⟨g,0,none⟩)] w λe w'=>∃R rc L,e= .returned (.slice R n rc)/\w'.ownsRow w.heap.size 135 6 (.slice R n rc) n (dO L)/\L.map (·.m)=(List.range n).map (λz=>(⟨4,at_,z,id,s,[]⟩:eU))/\yC w.heap.size w' L/\aoV w w':=by
 have hC:∀W,aoV w W->W.cell? ⟨g,0,none⟩=some (.int .i64 n)/\W.cell? ⟨g,1,none⟩=some (.int .i64 at_)/\W.cell? ⟨g,2,none⟩=some (.int .u64 id)/\W.cell? ⟨g,3,none⟩=some (.int .i64 3)/\W.cell? ⟨g,4,none⟩=some (.int .i64 s)/\W.cell? ⟨g,5,none⟩=some (.int .u64 0)/\W.cell? ⟨g,6,none⟩=some (.int .i64 0)/\W.cell? ⟨g,7,none⟩=some (.int .u64 0):=λW hW=>by
  have h9:=aH hW hb;exact⟨(aoW h9 0).trans pd,(aoW h9 1).trans r1,(aoW h9 2).trans r2,(aoW h9 3).trans r3,(aoW h9 4).trans iK,(aoW h9 5).trans ki,(aoW h9 6).trans iV,(aoW h9 7).trans apb⟩
 have bh:=aoU hC;clear hC hb pd r1 r2 r3 iK ki iV apb;go_enter func27,ntmps27
 go_wp2_with fail
 apply V.iE (λi vs W=>aoV w W/\(i=1->∃g2,vs 21= .pointer (some ⟨g2,0,none⟩)/\W.heap[g2]?=some (.cells #[.int .i64 n,.int .i64 at_,.int .u64 id,.int .i64 3,.int .i64 s,.int .u64 0,.int .i64 0,.int .u64 0,.bool false,.bool false,.bool false,.bool false,.bool false,.bool false,.bool false,.int .i64 0,.slice none 0 0,.int .i64 0,.int .u32 0,.int .i32 0,.int .u32 0,.int .u64 0,.int .i64 0,.int .i64 0,.int .u64 0,.int .i64 0,.int .i64 0,.int .u64 0,.slice none 0 0,.bool false] 130 (0,0)))/\(i=2->∃g2,vs 22= .pointer (some ⟨g2,0,none⟩)/\W.heap[g2]?=some (.cells #[.int .i64 n,.int .i64 at_,.int .u64 id,.int .i64 3,.int .i64 s,.int .u64 0,.int .i64 0,.int .u64 0,.bool false,.bool false,.bool false,.bool false,.bool false,.bool false,.bool false,.int .i64 0,.slice none 0 0,.int .i64 0,.int .u32 0,.int .i32 0,.int .u32 0,.int .u64 0,.int .i64 0,.int .i64 0,.int .u64 0,.int .i64 0,.int .i64 0,.int .u64 0,.slice none 0 0,.bool false] 130 (0,0)))) (by kernel_rfl) (by kernel_rfl) (λvs=>⟨aoV.drew (aoV.refl w),λe=>absurd e (by decide),λe=>absurd e (by decide)⟩)
 .intro aF aoX;iterate 21 (apply V.az.ok;(· intro i vs ag hS;obtain⟨c0,c1,c2,c3,c4,c5,gF,pz⟩:=bh.out ag hS.1;clear hS;go_simp;(try with_reducible rfl));(· rfl);simp only[au,Nat.reduceAdd])
  apply V.az.cG;rfl
  .intro vs ag hS cY ah;obtain⟨k1,-⟩:=hS
   have aS:=ah.out (.pointer (some ⟨ag.heap.size,0,none⟩)) (ag.alloc (.cells #[.int .i64 n,.int .i64 at_,.int .u64 id,.int .i64 3,.int .i64 s,.int .u64 0,.int .i64 0,.int .u64 0,.bool false,.bool false,.bool false,.bool false,.bool false,.bool false,.bool false,.int .i64 0,.slice none 0 0,.int .i64 0,.int .u32 0,.int .i32 0,.int .u32 0,.int .u64 0,.int .i64 0,.int .i64 0,.int .u64 0,.int .i64 0,.int .i64 0,.int .u64 0,.slice none 0 0,.bool false] 130)) ⟨k1.alloc _,λ_=>⟨ag.heap.size,by rw[V.eV],bp ag _⟩,λe=>absurd e (by decide)⟩;have aK:=aoU aS
   clear aS ah;go_simp;exact aK.out
  simp only[au,Nat.reduceAdd];apply V.az.cG;rfl
  .intro vs ag hS cY ah;obtain⟨k1,k2,-⟩:=hS;obtain⟨g2,hv,hh⟩:=k2 rfl;have aS:=ah.out (.pointer (some ⟨g2,0,none⟩)) ag ⟨k1,λe=>absurd e (by decide),λ_=>⟨g2,by rw[V.eV],hh⟩⟩;have aK:=aoU aS;clear aS ah hh
   (try dsimp only at aK|-)
   rw[hv] at aK|-;clear hv;go_simp;exact aK.out
  simp only[au,Nat.reduceAdd];apply V.az.fin;intro vs ag hS;obtain⟨k1,-,k2⟩:=hS;obtain⟨g2,hv,hh⟩:=k2 rfl;refine aoX.out _ _ ?_;clear aoX k2
  (try dsimp only)
  rw[hv];clear hv;have hp:=ai3 g2 n at_ id s ag hn hs (aB hh) ⟨_,hh,rfl,rfl,rfl,rfl,rfl,λj hj=>by
   rcases j with _|_|_|_|_|_|_|j <;>first|rfl|omega⟩
  have ib:=aoU hp;clear hp hh;go_wp2_with fail;refine ib.out.mono ?_;rintro e ai⟨R,rc,L,rfl,h1,h2,h3,h4⟩;go_wp2_with fail;go_ret;exact⟨R,rc,L,rfl,jP h1 k1.size,h2,(λv hv=>⟨(h3 v hv).1,λk hk=>⟨bQ k1.size ((h3 v hv).2 k hk).1,((h3 v hv).2 k hk).2⟩⟩),k1.trans h4⟩
 .kernel_rfl
theorem ajp(g aM:Nat)(w:World)(hg:g<w.heap.size)(hc:w.cell? ⟨g,0,none⟩=some (.int .u64 aM)):Bm 127 #[.pointer (some ⟨g,0,none⟩)] (λx=>decide (x.v.toNat<=aM)) w:=by
 intro W x hW;have hc0:W.cell? ⟨g,0,none⟩=some (.int .u64 aM):=(hW.cell (p:=⟨g,0,none⟩) hg).trans hc;have Ru:g<W.heap.size:=cg hg hW.size;have h0:aoV W (W.alloc (.cells #[.int .i64 x.s.toInt,.int .i64 x.k.toInt,.int .u64 x.t.toNat,.int .u64 x.v.toNat,.int .i64 x.x.toInt] 37)):=(aoV.refl W).alloc _;have kJ:=(h0.cell (p:=⟨g,0,none⟩) Ru).trans hc0;have hc1:(W.alloc (.cells #[.int .i64 x.s.toInt,.int .i64 x.k.toInt,.int .u64 x.t.toNat,.int .u64 x.v.toNat,.int .i64 x.x.toInt] 37)).cell? ⟨W.heap.size,3,none⟩=some (.int .u64 x.v.toNat):=by simp
 go_enter func127,ntmps127
 go_wp2_with fail;go_ret;exact⟨rfl,h0⟩
theorem ajq(aM ce a le:Nat)(A:Option Addr)(n c:Nat)(l:List aC)(w:World)(hr:Rd w w.heap.size 5 A n (bl l))(hn:n<=9223372036854775807):
 Calls prog 79 #[.agg #[.int .u64 aM,.int .u64 ce,.int .u64 a,.int .u64 le],.slice A n c] w λe w'=>e= .returned (.bool (!(l.any λx=>decide (x.v.toNat<=aM))))/\aoV w w':=by
 have ao6:aoV w (w.alloc (.cells #[.int .u64 aM,.int .u64 ce,.int .u64 a,.int .u64 le] 97)):=(aoV.refl w).alloc _;have aL:=bp w (.cells #[.int .u64 aM,.int .u64 ce,.int .u64 a,.int .u64 le] 97);have kL:=hr.up ao6;have eH:=aB aL;have hT:=ajp w.heap.size aM _ eH (aoW aL 0);have hc:=Zd 127 #[.pointer (some ⟨w.heap.size,0,none⟩)] (λx=>decide (x.v.toNat<=aM)) A n c l _ kL hn (λ_ _=>rfl) hT;obtain⟨q,hq⟩:=bB (l.any (λx=>decide (x.v.toNat<=aM)))
 rw[<- hq] at hc|-;have bh:=aoU hc;clear hc hT hr kL hq;go_enter func79,ntmps79
 go_wp2_with fail;refine bh.out.mono ?_;rintro e w1⟨rfl,hu⟩;go_wp2_with fail;go_ret;exact⟨rfl,ao6.trans hu⟩
def vY(aR:Nat)(l:List aC):Nat:=l.foldl (λk x=>xc k x.v.toNat) aR
def Kz(aR:Nat)(k n:Nat)(l:List aC):Nat:=vY (if k=4\/k=5 then aR else xc aR n) l
theorem ajr{B g nd aR ls:Nat}{K X:aD}{w:World}(h:kj B g nd aR ls K X w)(f t:Int)(kd id n:Nat)(A:Option Addr)(an ac:Nat)(l:List aC)(hr:Rd w w.heap.size 5 A an (bl l))(hX:0<an->∀a,A=some a->¬X a.block)(kE:an<=1000000)(hn:n<=18446744073709551615)(hk:kd=4\/kd=5):
 Calls prog 52 #[.pointer (some ⟨g,0,none⟩),.agg #[.int .i64 kd,.int .i64 f,.int .i64 t,.int .u64 id,.int .u64 n,.slice A an ac]] w λe w'=>e= .returned (.tuple #[])/\kj B g nd (vY aR l) ls K X w'/\V.af X w w':=by
 have ao6:aoV w (w.alloc (.cells #[.int .i64 kd,.int .i64 f,.int .i64 t,.int .u64 id,.int .u64 n,.slice A an ac] 135)):=(aoV.refl w).alloc _;have H0:=Dl h ao6;have bU:=aoU hr.og;have fT:=aoU (V.af.co (X:=X) ao6);have kL:=hr.up ao6;have yg:∀k,X k->k<w.heap.size:=λk hk=>(bH.blk.lt h hk).2
 have c0:(w.alloc (.cells #[.int .i64 kd,.int .i64 f,.int .i64 t,.int .u64 id,.int .u64 n,.slice A an ac] 135)).cell? ⟨w.heap.size,0,none⟩=some (.int .i64 kd):=by simp
 clear hr h;rcases hk with rfl|rfl;all_goals
  (first|rw[show((4:Nat):Int)=4 from rfl] at * | rw[show((5:Nat):Int)=5 from rfl] at *)
  go_enter func52,ntmps52
  go_wp2_with fail;generalize w.alloc (.cells _ 135)=wa at *;go_loopw[21] (λi wr=>∃k:Nat,i= .int .i64 k/\k<=an/\kj B g nd (vY aR (l.take k)) ls K X wr/\V.af X wa wr) (λi _=>an-(intOf i).toNat)
  case atStart=>exact⟨0,rfl,by omega,H0,V.af.refl _ _⟩
  case round=>
   obtain⟨k,rfl,hkn,xI,hK⟩:=hrel;by_cases hlt:k<an
   .have bS:k<l.length:=by have:=bU.out;omega
    have Uz:=kL.sW (aZ _) hX hK;obtain⟨b,o,x,rfl,hb,hx,c0,c1,c2,c3,c4⟩:=Uz.wI hlt;have hx2:l[k]=x:=by rw[dh bS] at hx;injection hx
    have jF:vY aR (l.take (k+1))=xc (vY aR (l.take k)) x.v.toNat:=by
     unfold vY;rw[lU bS,List.foldl_append,hx2];rfl
    have kW:=aoU jF;have hal:aoV wr (wr.alloc (.cells #[.int .i64 x.s.toInt,.int .i64 x.k.toInt,.int .u64 x.t.toNat,.int .u64 x.v.toNat,.int .i64 x.x.toInt] 37)):=(aoV.refl wr).alloc _;have dg:=aoU (Q6 (Dl xI hal) x.v.toNat (by have:=x.v.toNat_lt;omega));have wE:=aoU (ci hK (V.af.co (X:=X) hal));clear hx hx2 jF xI hK;go_wp2_with fail;refine dg.out.mono ?_;rintro e w4⟨rfl,h4,dP⟩;rw[<- kW.out] at h4;have vG:=ci wE.out dP.kept;clear dg kW wE c0 c1 c2 c3 c4 dP;go_wp2_with fail;go_roundw
    case rel=>exact⟨k+1,by go_num,by omega,h4,vG⟩
    case measure=>simp[intOf];omega
   .obtain rfl:k=an:=by omega
    have hall:l.take k=l:=lV (by have:=bU.out;omega);rw[hall] at xI;have UA:=aoU xI;have KA:=aoU (ci fT.out hK);clear xI hK;go_wp2_with fail;exact bodyPost_end (kV rfl _ _ _) rfl ⟨rfl,UA.out,KA.out⟩
theorem ajs{B g nd aR ls:Nat}{K X:aD}{w:World}(h:kj B g nd aR ls K X w)(f t:Int)(kd id n:Nat)(A:Option Addr)(an ac:Nat)(l:List aC)(hr:Rd w w.heap.size 5 A an (bl l))(hX:0<an->∀a,A=some a->¬X a.block)(kE:an<=1000000)(hn:n<=18446744073709551615)(hk:kd=1\/kd=2\/kd=3):
 Calls prog 52 #[.pointer (some ⟨g,0,none⟩),.agg #[.int .i64 kd,.int .i64 f,.int .i64 t,.int .u64 id,.int .u64 n,.slice A an ac]] w λe w'=>e= .returned (.tuple #[])/\kj B g nd (vY (xc aR n) l) ls K X w'/\V.af X w w':=by
 have ao6:aoV w (w.alloc (.cells #[.int .i64 kd,.int .i64 f,.int .i64 t,.int .u64 id,.int .u64 n,.slice A an ac] 135)):=(aoV.refl w).alloc _;have H0:=Dl h ao6;have bU:=aoU hr.og;have fT:=aoU (V.af.co (X:=X) ao6);have kL:=hr.up ao6;have yg:∀k,X k->k<w.heap.size:=λk hk=>(bH.blk.lt h hk).2
 have c0:(w.alloc (.cells #[.int .i64 kd,.int .i64 f,.int .i64 t,.int .u64 id,.int .u64 n,.slice A an ac] 135)).cell? ⟨w.heap.size,0,none⟩=some (.int .i64 kd):=by simp
 have ajt:(w.alloc (.cells #[.int .i64 kd,.int .i64 f,.int .i64 t,.int .u64 id,.int .u64 n,.slice A an ac] 135)).cell? ⟨w.heap.size,5,none⟩=some (.slice A an ac):=by simp
 clear hr h;rcases hk with rfl|rfl|rfl;all_goals
  (first|rw[show((1:Nat):Int)=1 from rfl] at * | rw[show((2:Nat):Int)=2 from rfl] at * | rw[show((3:Nat):Int)=3 from rfl] at *)
  go_enter func52,ntmps52
  go_wp2_with fail;generalize w.alloc (.cells _ 135)=wa at *;refine(Q6 H0 n hn).mono ?_;rintro e w2⟨rfl,H2,s2⟩;have il:=kL.sW (aZ _) hX s2.kept;have aju:=ci fT.out s2.kept;have eH:w.heap.size<wa.heap.size:=by
   rcases Nat.lt_or_ge w.heap.size wa.heap.size with h9|h9
   .exact h9
   .have:=c0;simp[World.cell?,pv h9] at this
  have c5:=(mv (a:=⟨w.heap.size,5,none⟩) (s2.kept.block w.heap.size eH (λh=>by have:=yg _ h;omega))).trans ajt;clear kL H0 s2;go_wp2_with fail;go_loopw[21] (λi wr=>∃k:Nat,i= .int .i64 k/\k<=an/\kj B g nd (vY (xc aR n) (l.take k)) ls K X wr/\V.af X w2 wr) (λi _=>an-(intOf i).toNat)
  case atStart=>exact⟨0,rfl,by omega,H2,V.af.refl _ _⟩
  case round=>
   obtain⟨k,rfl,hkn,xI,hK⟩:=hrel;by_cases hlt:k<an
   .have bS:k<l.length:=by have:=bU.out;omega
    have Uz:=il.sW (aZ _) hX hK;obtain⟨b,o,x,rfl,hb,hx,c0,c1,c2,c3,c4⟩:=Uz.wI hlt;have hx2:l[k]=x:=by rw[dh bS] at hx;injection hx
    have jF:vY (xc aR n) (l.take (k+1))=xc (vY (xc aR n) (l.take k)) x.v.toNat:=by
     unfold vY;rw[lU bS,List.foldl_append,hx2];rfl
    have kW:=aoU jF;have hal:aoV wr (wr.alloc (.cells #[.int .i64 x.s.toInt,.int .i64 x.k.toInt,.int .u64 x.t.toNat,.int .u64 x.v.toNat,.int .i64 x.x.toInt] 37)):=(aoV.refl wr).alloc _;have dg:=aoU (Q6 (Dl xI hal) x.v.toNat (by have:=x.v.toNat_lt;omega));have wE:=aoU (ci hK (V.af.co (X:=X) hal));clear hx hx2 jF xI hK;go_wp2_with fail;refine dg.out.mono ?_;rintro e w4⟨rfl,h4,dP⟩;rw[<- kW.out] at h4;have vG:=ci wE.out dP.kept;clear dg kW wE c0 c1 c2 c3 c4 dP;go_wp2_with fail;go_roundw
    case rel=>exact⟨k+1,by go_num,by omega,h4,vG⟩
    case measure=>simp[intOf];omega
   .obtain rfl:k=an:=by omega
    have hall:l.take k=l:=lV (by have:=bU.out;omega);rw[hall] at xI;have UA:=aoU xI;have KA:=aoU (ci aju hK);clear xI hK;go_wp2_with fail;exact bodyPost_end (kV rfl _ _ _) rfl ⟨rfl,UA.out,KA.out⟩
def KC(p:Value)(j:Nat):Array Value:= #[if 0<j then p else .pointer none,if 1<j then p else .pointer none,if 2<j then p else .pointer none,if 3<j then p else .pointer none,if 4<j then p else .pointer none,if 5<j then p else .pointer none]
theorem ajv(p:Value){j:Nat}(hj:j<6):(KC p j).setIfInBounds j p=KC p (j+1):=by
 rcases j with _|_|_|_|_|_|j <;>first|rfl|omega
theorem ajw(p:Value){j:Nat}(hj:j<6):(KC p j)[j]?=some (.pointer none):=by
 rcases j with _|_|_|_|_|_|j <;>first|rfl|omega
theorem ajx(h k:Nat):(Array.replicate h (Value.pointer none)).setIfInBounds k (.pointer none)=Array.replicate h (.pointer none):=by
 apply Array.ext_getElem?;intro j;by_cases e:k=j
 .subst e;by_cases hk:k<h
  .rw[Array.getElem?_setIfInBounds_self_of_lt (by simpa using hk)];simp[hk]
  .rw[Array.setIfInBounds_eq_of_size_le (by simpa using hk)]
 .rw[pZ e]
theorem ajy{X:Nat->Prop}{w w' w'':World}{g:Nat}(h:V.af X w w')(k:V.af (λz=>z=g) w' w'')(hg:w.heap.size<=g):V.af X w w'':=
 ⟨k.os.trans h.os,k.tape.trans h.tape,k.output.trans h.output,bQ h.size k.size,λi hi hx=>(k.block i (cg hi h.size) (λe=>by have e:i=g:=e;omega)).trans (h.block i hi hx)⟩
theorem ajz{B dX dy bO cf:Nat}(x:aC)(h:Nat)(h1:1<=h)(h6:h<=6)(hok:okB x=true)(w:World)(H:qA B dX dy bO cf w):
 Calls prog 170 #[.pointer (some ⟨dy,0,none⟩),.agg #[.int .i64 x.s.toInt,.int .i64 x.k.toInt,.int .u64 x.t.toNat,.int .u64 x.v.toNat,.int .i64 x.x.toInt],.int .i64 h] w λe w'=>e= .returned (.tuple #[.bool true,.int .i64 0])/\w'.heap[dy]?=some (.cells #[.pointer (some ⟨bO,0,none⟩),.int .i64 1] 319 (0,0))/\V.af (λk=>k=dy\/k=cf) w w':=by
 have aQ:aoV w (w.alloc (.cells #[.int .i64 x.s.toInt,.int .i64 x.k.toInt,.int .u64 x.t.toNat,.int .u64 x.v.toNat,.int .i64 x.x.toInt] 37)):=(aoV.refl w).alloc _;have aL:=bp w (.cells #[.int .i64 x.s.toInt,.int .i64 x.k.toInt,.int .u64 x.t.toNat,.int .u64 x.v.toNat,.int .i64 x.x.toInt] 37);have n8:=aoU (λW=>Hy x W);have ax:=aoU (λW (ape:qA B dX dy bO cf W)=>afM x W ape);have eT:=aoU (H.up aQ);have y1:decide ((h:Int)<1)=false:=by rw[iO];omega
 have lZ:decide ((6:Int)<(h:Int))=false:=by rw[iO];omega
 have ew:=aoU hok;have dr:=aoU H;clear H hok;obtain⟨c0,c1,c2,c3,c4⟩:=rK aL;go_enter func170,ntmps170
 go_wp2_with fail;generalize cM:w.alloc (.cells #[.int .i64 x.s.toInt,.int .i64 x.k.toInt,.int .u64 x.t.toNat,.int .u64 x.v.toNat,.int .i64 x.x.toInt] 37)=wa at *;generalize eH:w.heap.size=br at *;refine(n8.out wa).mono ?_;rintro e w1⟨rfl,hu1⟩;rw[ew.out];have fe:=aH hu1 aL;clear c0 c1 c2 c3 c4;obtain⟨c0,c1,c2,c3,c4⟩:=rK fe;go_wp2_with fail;refine(ax.out w1 (eT.out.up hu1)).mono ?_;rintro e w2⟨rfl,aq⟩;have hm2:=(eT.out.up hu1).up aq;have ao0:=aH aq fe
 have hal:=(aoV.refl w2).alloc (.cells #[.pointer (some ⟨bO,0,none⟩),.pointer (some ⟨bO,0,none⟩),.pointer (some ⟨bO,0,none⟩),.pointer (some ⟨bO,0,none⟩),.pointer (some ⟨bO,0,none⟩),.pointer (some ⟨bO,0,none⟩)] 330);have h8:=bp w2 (.cells #[.pointer (some ⟨bO,0,none⟩),.pointer (some ⟨bO,0,none⟩),.pointer (some ⟨bO,0,none⟩),.pointer (some ⟨bO,0,none⟩),.pointer (some ⟨bO,0,none⟩),.pointer (some ⟨bO,0,none⟩)] 330);have lB:=hm2.up hal;have mQ:=aH hal ao0;have bV:=((aQ.trans hu1).trans aq).trans hal;clear c0 c1 c2 c3 c4;have c0:=aoW h8 0;have d5:=aoW lB.h 5
 have dt:=aoW lB.n 0;go_wp2_with fail;generalize w2.alloc (.cells #[.pointer (some ⟨bO,0,none⟩),.pointer (some ⟨bO,0,none⟩),.pointer (some ⟨bO,0,none⟩),.pointer (some ⟨bO,0,none⟩),.pointer (some ⟨bO,0,none⟩),.pointer (some ⟨bO,0,none⟩)] 330)=w3 at *;generalize w2.heap.size=g8 at *;refine(SB ⟨cf,0,none⟩ w3 dt).mono ?_;rintro e w4⟨rfl,rfl⟩;clear c0 d5 dt hm2 ao0 fe aL hu1 aq hal;go_wp2_with fail;apply V.fQ (λW=>aoV w4 W) (by kernel_rfl) (by kernel_rfl) (λW hW=>hW)
 .intro aF aoX;iterate 3 (apply V.aj.ok;intros;go_simp;rfl;rfl;go_frame)
  iterate 6 (apply V.aj.sL (t:=36) (y:=false);(· rfl);(· intro vs;rfl);(· rfl);simp only[au,Nat.reduceAdd])
  iterate 1 (apply V.aj.ok;intros;go_simp;rfl;rfl;go_frame)
  apply V.aj.fin [];intro vs w1 hK hS _;refine aoX.out _ _ ?_;clear aoX;have md:=aH hS mQ;have tK:=lB.up hS;have UB:=aH hS h8;have cI:=bV.trans hS;obtain⟨c0,c1,c2,c3,c4⟩:=rK md;have fk:=aoU (s4 (.int .i64 x.s.toInt) (.int .i64 x.k.toInt) (.int .u64 x.t.toNat) (.int .u64 x.v.toNat) (.int .i64 x.x.toInt) h h6 w1 (by simp[Value.oneCell']));go_wp2_with fail;refine fk.out.mono ?_;rintro e cH⟨g,gn,rfl,k1,k2,aY,cJ,eZ⟩;have B4:=tK.up eZ;have Xb:=aH eZ UB
  have I0:(Array.replicate h (Value.pointer none))=Array.replicate h (Value.pointer none):=rfl;have gU:V.af (λz=>z=cf) w cH:=V.af.co (cI.trans eZ);have hw1:=cI.size;have ID:cf<w.heap.size:=aB dr.out.n;have yM:dy<w.heap.size:=aB dr.out.l;have afN:bO<w.heap.size:=aB dr.out.h;have aoc:g8<w1.heap.size:=aB UB;have rC:gn≠g:=λe=>by
   have q:=k2;rw[e] at q;exact absurd (cS q k1) (by decide)
  have ha0:cH.heap[cf]?=some (.cells (KC (.pointer (some ⟨g,0,none⟩)) 0) 335 (0,0)):=B4.n;have fj:dy≠cf:=λe=>by
   have q:=B4.l;rw[e] at q;exact absurd (cS q B4.n) (by decide)
  have hn2:bO≠cf:=λe=>by
   have q:=B4.h;rw[e] at q;exact absurd (cS q B4.n) (by decide)
  have Bu:cf≠g8:=λe=>by
   have q:=B4.n;rw[e] at q;exact absurd (cS q Xb) (by decide)
  clear c0 c1 c2 c3 c4 tK lB mQ h8 UB bV fk eT ax n8 md;go_wp2_with fail
  go_loopw[60] (λi wr=>∃k:Nat,i= .int .i64 k/\k<=h/\wr.heap[cf]?=some (.cells (KC (.pointer (some ⟨g,0,none⟩)) k) 335 (0,0))/\wr.heap[gn]?=some (.cells (Array.replicate h (.pointer none)) 335 (0,0))/\wr.heap[g]?=some (.cells #[.int .i64 x.s.toInt,.int .i64 x.k.toInt,.int .u64 x.t.toNat,.int .u64 x.v.toNat,.int .i64 x.x.toInt,.slice (some ⟨gn,0,none⟩) h h] 338 (0,0))/\wr.heap[g8]?=some (.cells #[.pointer (some ⟨bO,0,none⟩),.pointer (some ⟨bO,0,none⟩),.pointer (some ⟨bO,0,none⟩),.pointer (some ⟨bO,0,none⟩),.pointer (some ⟨bO,0,none⟩),.pointer (some ⟨bO,0,none⟩)] 330 (0,0))/\
   wr.heap[bO]?=some (.cells #[.int .i64 0,.int .i64 0,.int .u64 0,.int .u64 0,.int .i64 0,.slice (some ⟨cf,0,none⟩) 6 6] 338 (0,0))/\wr.heap[dy]?=some (.cells #[.pointer (some ⟨bO,0,none⟩),.int .i64 0] 319 (0,0))/\V.af (λz=>z=cf) w wr) (λi _=>h-(intOf i).toNat)
  case atStart=>exact⟨0,rfl,by omega,ha0,k2,k1,Xb,B4.h,B4.l,gU⟩
  case round=>
   obtain⟨k,rfl,hk,Ov,pC,wG,t7,Ow,Ay,Ox⟩:=hrel;by_cases hlt:k<h
   .have hki:(k:Int)<(h:Int):=by omega
    have nx:k<6:=by omega
    have aod:(k:Int)<6:=by omega
    go_wp2_with fail;have hcell:∀W,V.af (λz=>z=gn) wr W->W.cell? ⟨g,5,none⟩=some (.slice (some ⟨gn,0,none⟩) h h)/\W.cell? ⟨g8,k,none⟩=some (.pointer (some ⟨bO,0,none⟩))/\W.cell? ⟨bO,5,none⟩=some (.slice (some ⟨cf,0,none⟩) 6 6)/\W.cell? ⟨cf,k,none⟩=some (.pointer none):=λW hK=>by
     have e1:=cL hK wG (by show¬g=gn;exact λe=>rC e.symm);have e2:=cL hK t7 (by show¬g8=gn;omega);have bG:=cL hK Ow (by show¬bO=gn;omega);have bT:=cL hK Ov (by show¬cf=gn;omega);exact⟨aoW e1 5,(aoW e2 k).trans (by rcases k with _|_|_|_|_|_|k <;>first|rfl|omega),aoW bG 5,(aoW bT k).trans (ajw _ nx)⟩
    have cB:=aoU hcell;clear hcell;apply V.iE (λi vs W=>V.af (λz=>z=gn) wr W/\W.heap[gn]?=some (.cells (Array.replicate h (.pointer none)) 335 (0,0))) (by kernel_rfl) (by kernel_rfl) (λvs=>⟨V.af.co (aoV.drew (aoV.refl wr)),aH (aoV.drew (aoV.refl wr)) pC⟩)
    .intro aF aoX;iterate 14 (apply V.az.ok;(· intro i vs ai hS;obtain⟨d0,d1,d2,d3⟩:=cB.out ai hS.1;clear hS;go_simp;(try with_reducible rfl));(· rfl);simp only[au,Nat.reduceAdd])
     apply V.az.call (.pointer none);rfl
     .intro vs ag hS cY ah;obtain⟨j1,j2⟩:=hS;obtain⟨d0,d1,d2,d3⟩:=cB.out ag j1;have ik:=aoU d3;clear d0 d1 d2 d3;go_simp;refine(SB ⟨cf,k,none⟩ ag ik.out).mono ?_;rintro e ai⟨rfl,rfl⟩;exact ah.out _ ⟨j1,j2⟩
     simp only[au,Nat.reduceAdd];apply V.az.call (.tuple #[]);rfl
     .intro vs ag hS cY ah;obtain⟨j1,j2⟩:=hS;have F3:ag.cell? ⟨gn,k,none⟩=some (.pointer none):=(aoW j2 k).trans (by simp[hlt]);have bC:=bM ag gn k (.pointer none) _ _ j2;rw[ajx] at bC;have hks:V.af (λz=>z=gn) ag (ag.setCell ⟨gn,k,none⟩ (.pointer none)):=aoZ _ _ gn k _ (V.af.refl _ _);have aS:=ah.out _ ⟨ci j1 hks,bC⟩;have aK:=aoU aS;have ajA:=aoU (afG ⟨gn,k,none⟩ ag F3 (ay j2 k));clear aS ah bC hks F3 j2;go_simp;refine ajA.out.mono ?_;rintro e ai⟨rfl,rfl⟩;exact aK.out
     simp only[au,Nat.reduceAdd];apply V.az.fin;intro vs ag hS;obtain⟨j1,j2⟩:=hS;refine aoX.out _ _ ?_;clear aoX
     (try dsimp only)
     obtain⟨d0,d1,d2,d3⟩:=cB.out ag j1;have e1:=cL j1 wG (by show¬g=gn;exact λe=>rC e.symm);have e2:=cL j1 t7 (by show¬g8=gn;omega);have bG:=cL j1 Ow (by show¬bO=gn;omega);have bT:=cL j1 Ov (by show¬cf=gn;omega);have jV:=cL j1 Ay (by show¬dy=gn;omega);have kg:=ajy Ox j1 (by omega);have bC:=bM ag cf k (.pointer (some ⟨g,0,none⟩)) _ _ bT;rw[ajv _ nx] at bC;have hks:V.af (λz=>z=cf) ag (ag.setCell ⟨cf,k,none⟩ (.pointer (some ⟨g,0,none⟩))):=aoZ _ _ cf k _ (V.af.refl _ _)
     have hst:=afH ⟨cf,k,none⟩ ⟨g,0,none⟩ ag d3 (ay bT k) (aoW e1 0);have UC:=aoU bC;have FT:=aoU (cL hks j2 (by show¬gn=cf;omega));have ajB:=aoU (cL hks e1 (by show¬g=cf;omega));have ajC:=aoU (cL hks e2 (by show¬g8=cf;exact λe=>Bu e.symm));have ajD:=aoU (cL hks bG hn2);have ajE:=aoU (cL hks jV fj);have ajF:=aoU (ci kg hks);have hG:=aoU hst;clear bC hks hst e1 e2 bG bT jV kg d3 j2 Ov pC wG t7 Ow Ay Ox cB;go_wp2_with fail;refine hG.out.mono ?_;rintro e ai⟨rfl,rfl⟩;go_wp2_with fail
     exact⟨⟨k+1,by go_num,by omega,UC.out,FT.out,ajB.out,ajC.out,ajD.out,ajE.out,ajF.out⟩,by simp[intOf];omega⟩
    .kernel_rfl
   .obtain rfl:k=h:=by omega
    have c1:=aoW Ay 1;have f1:=ay Ay 1;have bC:=bM wr dy 1 (.int .i64 1) _ _ Ay;have hks:V.af (λz=>z=dy) wr (wr.setCell ⟨dy,1,none⟩ (.int .i64 1)):=aoZ _ _ dy 1 _ (V.af.refl _ _);have UC:=aoU bC;have FT:=aoU (ci (eQ Ox (λz hz=> .inr hz)) (eQ hks (λz (hz:z=dy)=>(.inl hz:z=dy\/z=cf))));clear bC hks Ov pC wG t7 Ow Ay Ox;go_wp2_with fail;refine dm (v:= .tuple #[.bool true,.int .i64 0]) (by simp[results,results170,go_sem]) rfl ?_;exact⟨rfl,UC.out,FT.out⟩
 .kernel_rfl
theorem ajG(A:Option Addr)(n c:Nat)(l:List UInt8)(w:World)(hr:Rd w w.heap.size 1 A n (cu l))(hn:n<=9223372036854775807):
 Calls prog 235 #[.slice A n c] w λe w'=>∃h:Int,e= .returned (.int .u64 h)/\0<=h/\h<18446744073709551616/\w=w':=by
 go_enter func235,ntmps235
 go_wp2_with fail;go_loop [3,8] (λq i=>∃(k:Nat)(h:Int),i= .int .i64 k/\q= .int .u64 h/\k<=n/\0<=h/\h<18446744073709551616) (λ_ i=>n-(intOf i).toNat)
 case atStart=>exact⟨0,_,rfl,rfl,by omega,by omega,by omega⟩
 case round=>
  obtain⟨k,h,rfl,rfl,hk,hh0,oV⟩:=hrel;by_cases hlt:k<n
  .obtain⟨b,o,rfl,hb,hc⟩:=hr.byte hlt;generalize l.getD k 0=b0 at hc;have UD:=b0.toNat_lt;have sY:(b0.toNat:Int)%18446744073709551616=(b0.toNat:Int):=by omega
   have hz:∀y:Int,0<=IntKind.u64.wrap y/\IntKind.u64.wrap y<18446744073709551616:=λy=>by rw[IntKind.wrap_u64];omega
   have jh:=aoU hz;clear hz;go_wp2_with fail;go_round
   case rel=>exact⟨k+1,_,by go_num,rfl,by omega,(jh.out _).1,(jh.out _).2⟩
   case measure=>simp[intOf];omega
  .go_wp2_with fail;go_ret;exact⟨h,rfl,hh0,oV,rfl⟩
theorem ajH(x:aC)(w:World):Calls prog 171 #[.agg #[.int .i64 x.s.toInt,.int .i64 x.k.toInt,.int .u64 x.t.toNat,.int .u64 x.v.toNat,.int .i64 x.x.toInt]] w λe w'=>∃n:Nat,e= .returned (.int .i64 n)/\1<=n/\n<=6/\aoV w w':=by
 have aQ:aoV w (w.alloc (.cells #[.int .i64 x.s.toInt,.int .i64 x.k.toInt,.int .u64 x.t.toNat,.int .u64 x.v.toNat,.int .i64 x.x.toInt] 37)):=(aoV.refl w).alloc _;have aL:=bp w (.cells #[.int .i64 x.s.toInt,.int .i64 x.k.toInt,.int .u64 x.t.toNat,.int .u64 x.v.toNat,.int .i64 x.x.toInt] 37);have fV:=aoU (λW=>aad x W);obtain⟨c0,c1,c2,c3,c4⟩:=rK aL;go_enter func171,ntmps171
 go_wp2_with fail;generalize w.alloc (.cells #[.int .i64 x.s.toInt,.int .i64 x.k.toInt,.int .u64 x.t.toNat,.int .u64 x.v.toNat,.int .i64 x.x.toInt] 37)=wa at *;refine(fV.out wa).mono ?_;rintro e w1⟨A,n,c,rfl,ho,hu1⟩;have ajI:n<=9223372036854775807:=by
  have hl:=(Rd.own ho).gO;have hk:(LU x).length=10:=by simp[LU,Wv]
  omega
 have cO:=aoU ho;clear ho c0 c1 c2 c3 c4 aL fV;go_wp2_with fail;refine(ajG A n c (LU x) w1 (Rd.own cO.out) ajI).mono ?_;rintro e w2⟨hh,rfl,hh0,oV,rfl⟩;have hu:=aQ.trans hu1;clear cO aQ;go_wp2_with fail;go_loop [3,4] (λn h=>∃(k:Nat)(z:Int),n= .int .i64 k/\h= .int .u64 z/\1<=k/\k<=6) (λn _=>6-(intOf n).toNat)
 case atStart=>exact⟨1,hh,rfl,rfl,by omega,by omega⟩
 case round=>
  obtain⟨k,z,rfl,rfl,iU,nx⟩:=hrel;cases hb:(bits .and .u64 z 3==0)
  .go_wp2_with fail;go_ret;exact⟨k,rfl,iU,nx,hu⟩
  .by_cases hlt:k<6
   .have y1:decide ((k:Int)<6)=true:=by rw[lw];omega
    go_wp2_with fail;go_round
    case rel=>exact⟨k+1,_,by go_num,rfl,by omega,by omega⟩
    case measure=>simp[intOf];omega
   .have y1:decide ((k:Int)<6)=false:=by rw[iO];omega
    go_wp2_with fail;go_ret;exact⟨k,rfl,iU,nx,hu⟩
theorem ajJ(w:World):Bm 168 #[] (λx=> !okB x) w:=by
 intro W x hW;have h0:aoV W (W.alloc (.cells #[.int .i64 x.s.toInt,.int .i64 x.k.toInt,.int .u64 x.t.toNat,.int .u64 x.v.toNat,.int .i64 x.x.toInt] 37)):=(aoV.refl W).alloc _;have aL:=bp W (.cells #[.int .i64 x.s.toInt,.int .i64 x.k.toInt,.int .u64 x.t.toNat,.int .u64 x.v.toNat,.int .i64 x.x.toInt] 37);obtain⟨c0,c1,c2,c3,c4⟩:=rK aL;have n8:=aoU (Hy x (W.alloc (.cells #[.int .i64 x.s.toInt,.int .i64 x.k.toInt,.int .u64 x.t.toNat,.int .u64 x.v.toNat,.int .i64 x.x.toInt] 37)))
 show Calls prog 168 #[.agg #[.int .i64 x.s.toInt,.int .i64 x.k.toInt,.int .u64 x.t.toNat,.int .u64 x.v.toNat,.int .i64 x.x.toInt]] W λe w'=>e= .returned (.bool (!okB x))/\aoV W w'
 generalize okB x=b at *;go_enter func168,ntmps168
 go_wp2_with fail;refine n8.out.mono ?_;rintro e w1⟨rfl,hu⟩;go_wp2_with fail;go_ret;exact⟨rfl,h0.trans hu⟩
theorem ajK(dy:Nat)(n:Int)(w:World)(h:w.cell? ⟨dy,1,none⟩=some (.int .i64 n)):Calls prog 172 #[.pointer (some ⟨dy,0,none⟩)] w λe w'=>e= .returned (.int .i64 n)/\w'=w:=by
 go_enter func172,ntmps172
 go_wp2_with fail;go_ret;exact⟨rfl,rfl⟩
theorem ajL{B dX dy bO cf:Nat}(x:aC)(hok:okB x=true)(A:Option Addr)(c:Nat)(w:World)(H:qA B dX dy bO cf w)(hr:Rd w w.heap.size 5 A 1 (bl [x])):
 Calls prog 105 #[.pointer (some ⟨dX,0,none⟩),.slice A 1 c] w λe w'=>e= .returned (.int .i64 0)/\V.af (λk=>k=dX\/k=dy\/k=bO\/k=cf) w w':=by
 have c4:=aoW H.q 4;have L3:=aoU (Zd 168 #[] (λx=> !okB x) A 1 c [x] w hr (by omega) (λ_ _=>rfl) (ajJ w));have qr:([x].any λx=> !okB x)=false:=by simp[hok]
 have Oy:=aoU qr;have ew:=aoU hok;have dr:=aoU H;clear qr hok H;go_enter func105,ntmps105
 go_wp2_with fail;refine L3.out.mono ?_;rintro e w1⟨rfl,hu1⟩;rw[Oy.out];have kz:=hr.up hu1;have sq:=dr.out.up hu1;clear L3 c4;go_wp2_with fail;go_loopw[17] (λi wr=>∃k:Nat,i= .int .i64 k/\k<=1/\Hid (k=0->aoV w1 wr)/\Hid (k=1->wr.heap[dy]?=some (.cells #[.pointer (some ⟨bO,0,none⟩),.int .i64 1] 319 (0,0))/\V.af (λk=>k=dy\/k=cf) w1 wr)) (λi _=>1-(intOf i).toNat)
 case atStart=>exact⟨0,rfl,by omega,λ_=>aoV.refl _,λe=>absurd e (by decide)⟩
 case round=>
  obtain⟨k,rfl,hk,pd,r1⟩:=hrel;by_cases hlt:k<1
  .obtain rfl:k=0:=by omega
   have aq:=pd.out rfl;obtain⟨b,o,e,hb,hc⟩:=(kz.up aq).2 (by omega);subst e;have q0:wr.cell? ⟨b,o,none⟩=some (.int .i64 x.s.toInt):=hc 0 _ rfl;have q1:wr.cell? ⟨b,o+1,none⟩=some (.int .i64 x.k.toInt):=hc 1 _ rfl;have cP:wr.cell? ⟨b,o+2,none⟩=some (.int .u64 x.t.toNat):=hc 2 _ rfl;have dQ:wr.cell? ⟨b,o+3,none⟩=some (.int .u64 x.v.toNat):=hc 3 _ rfl;have eX:wr.cell? ⟨b,o+4,none⟩=some (.int .i64 x.x.toInt):=hc 4 _ rfl;have hal:=(aoV.refl wr).alloc (.cells #[.int .i64 x.s.toInt,.int .i64 x.k.toInt,.int .u64 x.t.toNat,.int .u64 x.v.toNat,.int .i64 x.x.toInt] 37)
   have aL:=bp wr (.cells #[.int .i64 x.s.toInt,.int .i64 x.k.toInt,.int .u64 x.t.toNat,.int .u64 x.v.toNat,.int .i64 x.x.toInt] 37);have hmb:=(sq.up aq).up hal;have aX:=aq.trans hal;rw[show((0:Nat):Int)=0 from rfl] at *;clear pd r1 hc;go_wp2_with fail;generalize wr.alloc (.cells #[.int .i64 x.s.toInt,.int .i64 x.k.toInt,.int .u64 x.t.toNat,.int .u64 x.v.toNat,.int .i64 x.x.toInt] 37)=wb at *;generalize wr.heap.size=br at *;have hg1:dX≠dy:=λe=>by
    have q:=hmb.q;rw[e] at q;exact absurd (cS q hmb.l) (by decide)
   have ex:dX≠cf:=λe=>by
    have q:=hmb.q;rw[e] at q;exact absurd (cS q hmb.n) (by decide)
   have kM:br≠dy:=λe=>by
    have q:=aL;rw[e] at q;exact absurd (cS q hmb.l) (by decide)
   have x7:br≠cf:=λe=>by
    have q:=aL;rw[e] at q;exact absurd (cS q hmb.n) (by decide)
   have hcell:∀W,V.af (λk=>k=dy\/k=cf) wb W->W.cell? ⟨dX,0,none⟩=some (.pointer (some ⟨dy,0,none⟩))/\W.cell? ⟨br,0,none⟩=some (.int .i64 x.s.toInt)/\W.cell? ⟨br,1,none⟩=some (.int .i64 x.k.toInt)/\W.cell? ⟨br,2,none⟩=some (.int .u64 x.t.toNat)/\W.cell? ⟨br,3,none⟩=some (.int .u64 x.v.toNat)/\W.cell? ⟨br,4,none⟩=some (.int .i64 x.x.toInt):=λW hK=>by
    have e1:=cL hK hmb.q (λh=>h.elim hg1 ex);have e2:=cL hK aL (λh=>h.elim kM x7);exact⟨aoW e1 0,aoW e2 0,aoW e2 1,aoW e2 2,aoW e2 3,aoW e2 4⟩
   have cB:=aoU hcell;clear hcell;apply V.iE (λi vs W=>V.af (λk=>k=dy\/k=cf) wb W/\(i<=1->aoV wb W)/\(i=1->∃h:Nat,vs 6= .int .i64 h/\1<=h/\h<=6)/\(i=2->W.heap[dy]?=some (.cells #[.pointer (some ⟨bO,0,none⟩),.int .i64 1] 319 (0,0)))) (by kernel_rfl) (by kernel_rfl) (λvs=>⟨V.af.co (aoV.drew (aoV.refl wb)),λ_=>aoV.drew (aoV.refl wb),λe=>absurd e (by decide),λe=>absurd e (by decide)⟩)
   .intro aF aoX;iterate 6 (apply V.az.ok;(· intro i vs ai hS;obtain⟨d0,d1,d2,d3,d4,d5⟩:=cB.out ai hS.1;clear hS;go_simp;(try with_reducible rfl));(· rfl);simp only[au,Nat.reduceAdd])
    apply V.az.cG;rfl
    .intro vs ag hS cY ah;obtain⟨j1,j2,-,-⟩:=hS;have fk:=aoU (ajH x ag);go_simp;refine fk.out.mono ?_;rintro e ai⟨n,rfl,n1,n2,cI⟩;exact ah.out _ _ ⟨ci j1 (V.af.co cI),λ_=>(j2 (by decide)).trans cI,λ_=>⟨n,by rw[V.eV],n1,n2⟩,λe=>absurd e (by decide)⟩
    simp only[au,Nat.reduceAdd];apply V.az.cG;rfl
    .intro vs ag hS cY ah;obtain⟨j1,j2,dL,-⟩:=hS;obtain⟨n,hv,n1,n2⟩:=dL rfl;have fk:=aoU (ajz x n n1 n2 ew.out ag (hmb.up (j2 (by decide))))
     (try dsimp only at ah|-)
     rw[hv] at ah|-;clear hv dL;go_simp;refine fk.out.mono ?_;rintro e ai⟨rfl,h5,vi⟩;exact ah.out _ _ ⟨ci j1 vi,λe=>absurd e (by decide),λe=>absurd e (by decide),λ_=>h5⟩
    simp only[au,Nat.reduceAdd];apply V.az.fin;intro vs ag hS;obtain⟨j1,-,-,dL⟩:=hS;have tu:=aoU (dL rfl);refine aoX.out _ _ ?_;clear aoX dL
    (try dsimp only)
    have fV:=aoU (ci (V.af.co aX) j1);clear j1 cB;go_wp2_with fail;exact⟨⟨1,by go_num,by omega,λe=>absurd e (by decide),λ_=>⟨tu.out,fV.out⟩⟩,by simp[intOf]⟩
   .kernel_rfl
  .obtain rfl:k=1:=by omega
   obtain⟨f1,f2⟩:=r1.out rfl;have hg1:dX≠dy:=λe=>by
    have q:=sq.q;rw[e] at q;exact absurd (cS q sq.l) (by decide)
   have ex:dX≠cf:=λe=>by
    have q:=sq.q;rw[e] at q;exact absurd (cS q sq.n) (by decide)
   have f3:=cL f2 sq.q (λh=>h.elim hg1 ex);have f4:V.af (λk=>k=dX\/k=dy\/k=bO\/k=cf) w wr:=ci (V.af.co hu1) (eQ f2 (λz hz=>hz.elim (λh=> .inr (.inl h)) (λh=> .inr (.inr (.inr h)))));rw[show((1:Nat):Int)=1 from rfl] at *;clear pd r1 hlt f2;go_wp2_with fail;have hcell:∀W (v:Int),V.af (λk=>k=dX) wr W->W.heap[dX]?=some (.cells #[.pointer (some ⟨dy,0,none⟩),.int .u32 0,.int .i32 0,.int .u32 0,.bool false,.int .i64 v] 259 (0,0))->W.cell? ⟨dX,0,none⟩=some (.pointer (some ⟨dy,0,none⟩))/\W.cell? ⟨dy,1,none⟩=some (.int .i64 1):=λW v hK h=>by
    exact⟨aoW h 0,aoW (cL hK f1 (λe=>hg1 e.symm)) 1⟩
   have cB:=aoU hcell;clear hcell;apply V.iE (λi vs W=>V.af (λk=>k=dX) wr W/\∃v:Int,W.heap[dX]?=some (.cells #[.pointer (some ⟨dy,0,none⟩),.int .u32 0,.int .i32 0,.int .u32 0,.bool false,.int .i64 v] 259 (0,0))) (by kernel_rfl) (by kernel_rfl) (λvs=>⟨V.af.co (aoV.drew (aoV.refl wr)),0,aH (aoV.drew (aoV.refl wr)) f3⟩)
   .intro aF aoX;iterate 7 (apply V.az.ok;(· intro i vs ai hS;obtain⟨j1,v,j2⟩:=hS;obtain⟨d0,d1⟩:=cB.out ai v j1 j2;clear j1 j2;go_simp;(try with_reducible rfl));(· rfl);simp only[au,Nat.reduceAdd])
    apply V.az.call (.int .i64 1);rfl
    .intro vs ag hS cY ah;obtain⟨j1,v,j2⟩:=hS;obtain⟨d0,d1⟩:=cB.out ag v j1 j2;go_simp;refine(ajK dy 1 ag d1).mono ?_;rintro e ai⟨rfl,rfl⟩;exact ah.out _ ⟨j1,v,j2⟩
    simp only[au,Nat.reduceAdd];iterate 1 (apply V.az.ok;(· intro i vs ai hS;clear hS;go_simp;(try with_reducible rfl));(· rfl);simp only[au,Nat.reduceAdd])
    apply V.az.call (.tuple #[]);rfl
    .intro vs ag hS cY ah;obtain⟨j1,v,j2⟩:=hS;have bC:=bM ag dX 5 (.int .i64 28) _ _ j2;have hks:V.af (λz=>z=dX) ag (ag.setCell ⟨dX,5,none⟩ (.int .i64 28)):=aoZ _ _ dX 5 _ (V.af.refl _ _);have aK:=aoU (ah.out _ ⟨ci j1 hks,28,bC⟩);have bh:=aoU (RA dX 5 v 28 ag (aoW j2 5) (ay j2 5));clear ah bC hks j2;go_simp;refine bh.out.mono ?_;rintro e ai⟨rfl,rfl⟩;exact aK.out
    simp only[au,Nat.reduceAdd];apply V.az.fin;intro vs ag hS;obtain⟨j1,-⟩:=hS;refine aoX.out _ _ ?_;clear aoX
    (try dsimp only)
    have fV:=aoU (ci f4 (eQ j1 (λz (hz:z=dX)=>(.inl hz:z=dX\/z=dy\/z=bO\/z=cf))));clear j1 f4;go_wp2_with fail;go_ret;exact⟨rfl,fV.out⟩
   .kernel_rfl
end
end Go.Proofs.YtfghplfgndppfaaGreatDoor
