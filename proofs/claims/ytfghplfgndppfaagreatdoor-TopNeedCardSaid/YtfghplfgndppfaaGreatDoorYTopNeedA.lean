/- Texts of this claim, joined: TopNeed. -/
import Derived.Test.YtfghplfgndppfaaGreatDoorZ26
set_option linter.unusedVariables false
set_option linter.unusedSimpArgs false
set_option maxRecDepth 100000
set_option maxHeartbeats 8000000
namespace Go.Proofs.YtfghplfgndppfaaGreatDoor
open Go.Proofs.Tryz
namespace topNeed
open Go.RowKit Go.Maps
theorem alZ(w:World):Calls prog 9 #[.int .i64 5] w λe w'=>e= .returned (.int .i64 3)/\aoV w w':=by
 go_enter func9,ntmps9
 go_wp2_with fail;go_ret;exact⟨rfl,aoV.refl _⟩
theorem A4(c:cr)(i:Nat):(fx c i).aw.length=c.aw.length:=by
 unfold fx;cases c.aw[i]? with
 |none=>rfl
 |some d=>
  by_cases h:d.up=true
  .show(if d.up=true then _ else _:cr).aw.length=_;rw[if_pos h];exact List.length_set
  .show(if d.up=true then _ else _:cr).aw.length=_;rw[if_neg h]
theorem Le(c:cr)(i:Nat):(fZ c i).aw.length=c.aw.length/\(fZ c i).aG=c.aG:=by
 unfold fZ;cases c.aw[i]? with
 |none=>exact⟨rfl,rfl⟩
 |some d=>
  by_cases h:d.up=true
  .show(if d.up=true then _ else _:cr).aw.length=_/\(if d.up=true then _ else _:cr).aG=_;rw[if_pos h];exact⟨rfl,rfl⟩
  .show(if d.up=true then _ else _:cr).aw.length=_/\(if d.up=true then _ else _:cr).aG=_;rw[if_neg h];exact⟨List.length_set,rfl⟩
theorem node4(a:Int):∃n m:Nat,bits .and .i64 a 255=(n:Int)/\(n:Int).tmod 4=(m:Int)/\n<=255/\m<=3/\m+1∈ [1,2,3,4]:=by
 obtain⟨n,hn,hn2⟩:=WP a 255 (by omega);have hm:n%4<=3:=by omega
 refine⟨n,n%4,hn,by rw[Int.tmod_eq_emod_of_nonneg (by omega)];rfl,hn2,hm,?_⟩;have h4:n%4=0\/n%4=1\/n%4=2\/n%4=3:=by omega
 rcases h4 with h|h|h|h <;>rw[h] <;>decide
def yF(B gc:Nat)(c':cr)(K X:aD)(w w':World):Prop:=∃(g':dI)(K' X':aD),g'.gc=gc/\aU B g' c' K' X' w'/\aO K X w K' X' w'
theorem al0(a0 b0 y0 z0 jd bu:Int)(w:World)(hv:iX w)(Il: -9223372036854775808<=bu/\bu<=9223372036854775807):
 Calls prog 3 #[.int .i64 a0,.int .i64 b0,.int .i64 y0,.int .i64 z0,.int .i64 jd,.int .i64 bu] w λe w'=>e= .returned (.bool true)/\aoV w w':=by
 obtain⟨n1,m1,fj,sq,aoz,aoA,ha⟩:=node4 a0;obtain⟨n2,m2,hn2,hm2,aoB,aoC,hb⟩:=node4 b0;obtain⟨n3,m3,Bu,lB,aoD,aoE,hy⟩:=node4 y0;obtain⟨tF,m4,UZ,va,aoF,aoG,hz⟩:=node4 z0;obtain⟨aI,AF,al1⟩:=WP jd 255 (by omega);replace AF:bits .and .i64 jd 255=(aI:Int):=AF;obtain⟨hx,mg,Ej,Vf⟩:=F7 rG (by decide) (by decide) aI al1 bu Il;obtain⟨x,rf⟩:=bB (mR (fB rG aI bu) 8)
 rw[<- rf] at hx mg Ej Vf;obtain⟨d1,d2,d3,d4,d5,d6,d7,d8,c3,gF,o1,o2,oW,i3,r3,a3,xg,CL,X6,NH,D7,i8,j5,a8,g3⟩:=(alC hx rf.symm mg FP Xa Il ha hb hy hz).run;have mJ:=aoU (cx (B:=w.heap.size) (n:=5) (aG:=5) (w:=w) (by decide) (by decide) hv (Xc hv) (Nat.le_refl _))
 have FM:∀(i:Nat)(c:cr)(d:bA)(df:Ei c i d)(hl:c.aw.length<=7)(g:dI)(K X:aD)(w1:World),aU w.heap.size g c K X w1->Calls prog 6 #[.pointer (some ⟨g.gc,0,none⟩),.int .i64 i,.slice none 0 0] w1 λe w'=>(∃u:Bool,e= .returned (.bool u))/\yF w.heap.size g.gc (fx c i) K X w1 w':=λi c d df hl g K X w1 H=>
  (alP H df hl).mono λe w' ⟨he,aN,K',X',h1,h2⟩=>⟨⟨_,he⟩,{ g with aN:=aN },K',X',rfl,h1,h2⟩
 have back:∀(i:Nat)(c:cr)(d:bA)(df:Lb c i d)(hg:c.aG=5)(g:dI)(K X:aD)(w1:World),iX w1->aU w.heap.size g c K X w1->Calls prog 8 #[.pointer (some ⟨g.gc,0,none⟩),.int .i64 i] w1 λe w'=>(∃u:Int,e= .returned (.int .i64 u))/\yF w.heap.size g.gc (fZ c i) K X w1 w':=λi c d df hg g K X w1 hv H=>
  (alY H df hv (by rw[hg];decide)).mono λe w' ⟨he,aN,K',X',h1,h2⟩=>⟨⟨_,he⟩,{ g with aN:=aN },K',X',rfl,h1,h2⟩
 have k1:∀(g:dI)(K X:aD)(w1:World),aU w.heap.size g (fu 5 5) K X w1->Calls prog 6 #[.pointer (some ⟨g.gc,0,none⟩),.int .i64 ((m1:Int)+1),.slice none 0 0] w1 λe w'=>(∃u:Bool,e= .returned (.bool u))/\yF w.heap.size g.gc (fx (fu 5 5) (m1+1)) K X w1 w':=
  FM (m1+1) _ _ o1 (by decide)
 have k2:∀(g:dI)(K X:aD)(w1:World),aU w.heap.size g (fx (fu 5 5) (m1+1)) K X w1->Calls prog 6 #[.pointer (some ⟨g.gc,0,none⟩),.int .i64 ((m2:Int)+1),.slice none 0 0] w1 λe w'=>(∃u:Bool,e= .returned (.bool u))/\yF w.heap.size g.gc (fx (fx (fu 5 5) (m1+1)) (m2+1)) K X w1 w':=
  FM (m2+1) _ _ o2 (by rw[A4];decide)
 have aY:∀(g:dI)(K X:aD)(w1:World),aU w.heap.size g (fx (fx (fu 5 5) (m1+1)) (m2+1)) K X w1->Calls prog 7 #[.pointer (some ⟨g.gc,0,none⟩),.int .i64 0,.agg #[.int .i64 1,.int .i64 aI,.int .u64 8,.int .i64 bu]] w1 λe w'=>(∃(R:Option Addr)(rc:Nat),e= .returned (.tuple #[.agg #[.int .u64 1,.int .i64 1,.int .i64 aI,.int .u64 8,.int .i64 bu,.int .i64 0,.int .u64 8,.slice R 0 rc],.bool true]))/\yF w.heap.size g.gc c3 K X w1 w':=λg K X w1 H=>
  (S8 H oW r3 [] (an:=⟨1,fB rG aI bu,0,8,[]⟩) a3 (by decide) i3.symm rfl (λu hu=>by rw[a3] at hu;rcases List.mem_singleton.1 hu with rfl;exact Nat.zero_le _)).mono λe w' ⟨R,rc,he,g',K',X',h1,h2,h3,_⟩=>⟨⟨R,rc,he⟩,g',K',X',h1,h2,h3⟩
 have cJ:∀(g:dI)(K X:aD)(w1:World),iX w1->aU w.heap.size g c3 K X w1->Calls prog 8 #[.pointer (some ⟨g.gc,0,none⟩),.int .i64 ((m1:Int)+1)] w1 λe w'=>(∃u:Int,e= .returned (.int .i64 u))/\yF w.heap.size g.gc (fZ c3 (m1+1)) K X w1 w':=
  back (m1+1) _ _ xg g3
 have eP:∀(g:dI)(K X:aD)(w1:World),iX w1->aU w.heap.size g (fZ c3 (m1+1)) K X w1->Calls prog 8 #[.pointer (some ⟨g.gc,0,none⟩),.int .i64 ((m2:Int)+1)] w1 λe w'=>(∃u:Int,e= .returned (.int .i64 u))/\yF w.heap.size g.gc (fZ (fZ c3 (m1+1)) (m2+1)) K X w1 w':=
  back (m2+1) _ _ CL ((Le _ _).2.trans g3)
 have wS:∀(g:dI)(K X:aD)(w1:World),aU w.heap.size g (fZ (fZ c3 (m1+1)) (m2+1)) K X w1->Calls prog 6 #[.pointer (some ⟨g.gc,0,none⟩),.int .i64 ((m3:Int)+1),.slice none 0 0] w1 λe w'=>(∃u:Bool,e= .returned (.bool u))/\yF w.heap.size g.gc (fx (fZ (fZ c3 (m1+1)) (m2+1)) (m3+1)) K X w1 w':=
  FM (m3+1) _ _ X6 (by rw[(Le _ _).1,(Le _ _).1];exact xg.n)
 have Oj:∀(g:dI)(K X:aD)(w1:World),aU w.heap.size g (fx (fZ (fZ c3 (m1+1)) (m2+1)) (m3+1)) K X w1->Calls prog 6 #[.pointer (some ⟨g.gc,0,none⟩),.int .i64 ((m4:Int)+1),.slice none 0 0] w1 λe w'=>(∃u:Bool,e= .returned (.bool u))/\yF w.heap.size g.gc (fx (fx (fZ (fZ c3 (m1+1)) (m2+1)) (m3+1)) (m4+1)) K X w1 w':=
  FM (m4+1) _ _ NH (by rw[A4,(Le _ _).1,(Le _ _).1];exact xg.n)
 have Ok:∀(g:dI)(K X:aD)(w1:World),aU w.heap.size g (fx (fx (fZ (fZ c3 (m1+1)) (m2+1)) (m3+1)) (m4+1)) K X w1->Calls prog 7 #[.pointer (some ⟨g.gc,0,none⟩),.int .i64 0,.agg #[.int .i64 3,.int .i64 aI,.int .u64 0,.int .i64 0]] w1 λe w'=>(∃(b o:Nat)(rc:Nat),e= .returned (.tuple #[.agg #[.int .u64 2,.int .i64 3,.int .i64 aI,.int .u64 0,.int .i64 0,.int .i64 0,.int .u64 0,.slice (some ⟨b,o,none⟩) 1 rc],.bool true])/\w'.cell? ⟨b,o+3,none⟩=some (.int .u64 8)/\w'.cell? ⟨b,o+4,none⟩=some (.int .i64 bu))/\yF w.heap.size g.gc gF K X w1 w':=λg K X w1 H=>
  (S8 H D7 j5 [⟨1,fB rG aI bu,0,8,[]⟩] (an:=⟨2,km aI,0,0,[x]⟩) a8 (by simp) i8.symm rfl (λu hu=>by rw[a8] at hu;simp at hu;rcases hu with rfl|rfl <;>simp)).mono λe w' ⟨R,rc,he,g',K',X',h1,h2,h3,hr,_⟩=>by
   obtain⟨b,o,rfl,-,hc⟩:=hr.2 Nat.zero_lt_one;have c3:=hc 3 (.int .u64 x.v.toNat) rfl;have c4:=hc 4 (.int .i64 x.x.toInt) rfl;rw[Vf] at c3;rw[Ej] at c4;exact⟨⟨b,o,rc,he,c3,c4⟩,g',K',X',h1,h2,h3⟩
 have al2:=aoU (λ(w1:World)(h:iX w1)=>alI w1 h);have cd:=aoU hv;have Ld:=aoU k1;have uI:=aoU k2;have pT:=aoU aY;have vG:=aoU cJ;have Bz:=aoU eP;have D8:=aoU wS;have I1:=aoU Oj;have eR:=aoU Ok;clear k1 k2 aY cJ eP wS Oj Ok FM back o1 o2 oW i3 r3 a3 xg CL X6 NH D7 i8 j5 a8 hx mg Ej Vf rf g3 hv ha hb hy hz;go_enter func3,ntmps3
 go_wp2_with fail;refine mJ.out.mono ?_;rintro e w1⟨g,aA,rfl,H1,hu1,pX⟩;have bh:=aoU (Ld.out g _ aA w1 H1);have kG:=aoU hu1;have ew:=aoU (λk (hk:aA k)=>(H1.lt hk).1);clear H1 mJ hu1 pX Ld;go_wp2_with fail;refine bh.out.mono ?_;rintro e w2⟨⟨_,rfl⟩,g2,jY,cD,e2,H2,pu⟩;have O':=aoU (pu.below ew.out kG.out);have DZ:=aoU (λk (hk:cD k)=>(H2.lt hk).1);have eJ:=aoU (uI.out g2 jY cD w2 H2);rw[e2] at eJ;have zM:=aoU e2;clear H2 pu bh kG ew uI e2;go_wp2_with fail;refine eJ.out.mono ?_;rintro e w3⟨⟨_,rfl⟩,g3,rQ,lI,bG,H3,pr⟩
 have yE:=aoU (pr.below DZ.out O'.out);have DC:=aoU (λk (hk:lI k)=>(H3.lt hk).1);have gP:=aoU (pT.out g3 rQ lI w3 H3);rw[bG] at gP;have al3:=aoU bG;clear H3 pr eJ O' DZ pT bG zM;go_wp2_with fail;refine gP.out.mono ?_;rintro e w4⟨⟨uB,p0,rfl⟩,g4,lC,ng,bT,H4,mF⟩;obtain⟨wb,cN⟩:=bB (w4.alloc (.cells #[.int .u64 1,.int .i64 1,.int .i64 aI,.int .u64 8,.int .i64 bu,.int .i64 0,.int .u64 8,.slice uB 0 p0] 32))
 have aX:aoV w4 wb:=by rw[cN];exact(aoV.refl _).alloc _
 have fe:wb.heap[w4.heap.size]?=some (.cells #[.int .u64 1,.int .i64 1,.int .i64 aI,.int .u64 8,.int .i64 bu,.int .i64 0,.int .u64 8,.slice uB 0 p0] 32 (0,0)):=by rw[cN];exact heap_alloc_new w4 _
 obtain⟨pb,hpb⟩:=bB w4.heap.size
 have KK:¬ng pb:=λh=>by have:=(H4.lt h).2;omega
 have y9:¬lC pb:=λh=>by have:=H4.jA.lt _ h;omega
 have P9:=H4.up aX;have q9:=mF.trans (aO.up (K:=lC) (X:=ng) aX);have eO:=q9.below DC.out yE.out;have xi:=aoU eO;have kX:=aoU (λk (hk:ng k)=>(H4.lt hk).1);have ua:=aoU (vG.out g4 lC ng wb (cd.out.up eO) P9);rw[bT] at ua;have al4:=aoU bT;rw[<- hpb] at fe;have rz:=aoU (And.intro fe (And.intro KK y9));have iD:=aoU cN;have wB:=aoU hpb;clear H4 P9 mF q9 gP yE DC vG bT al3 aX fe KK y9 eO cN hpb;go_wp2_with fail;rw[<- iD.out,<- wB.out];clear iD wB;refine ua.out.mono ?_;rintro e ai⟨⟨_,rfl⟩,g5,qG,ep,dt,H5,mG⟩
 have cI:=mG.below kX.out xi.out;have md:=mG.box rz.out.1 rz.out.2.1 rz.out.2.2;have M8:=aoU (Bz.out g5 qG ep ai (cd.out.up cI) H5);rw[dt] at M8;have al5:=aoU dt;have xj:=aoU cI;have G1:=aoU (λk (hk:ep k)=>(H5.lt hk).1);have rA:=aoU md;clear H5 mG ua xi kX al4 rz Bz dt cI md;go_wp2_with fail;refine M8.out.mono ?_;rintro e cH⟨⟨_,rfl⟩,g6,Hl,RO,jV,rO,xZ⟩;have eZ:=xZ.below G1.out xj.out;have sY:=xZ.box rA.out.1 rA.out.2.1 rA.out.2.2;have Vg:=aoU (D8.out g6 Hl RO cH rO);rw[jV] at Vg;have al6:=aoU jV;have bz:=aoU eZ
 have z7:=aoU (λk (hk:RO k)=>(rO.lt hk).1);have Pa:=aoU sY;clear rO xZ M8 xj G1 al5 rA D8 jV eZ sY;go_wp2_with fail;refine Vg.out.mono ?_;rintro e w7⟨⟨_,rfl⟩,g7,al7,M9,kg,mH,rB⟩;have uo:=rB.below z7.out bz.out;have tO:=rB.box Pa.out.1 Pa.out.2.1 Pa.out.2.2;have Vh:=aoU (I1.out g7 al7 M9 w7 mH);rw[kg] at Vh;have al8:=aoU kg;have z6:=aoU uo;have z8:=aoU (λk (hk:M9 k)=>(mH.lt hk).1);have Pc:=aoU tO;clear mH rB Vg bz z7 al6 Pa I1 kg uo tO;go_wp2_with fail;refine Vh.out.mono ?_;rintro e dY⟨⟨_,rfl⟩,g8,al9,Ky,py,oA,GB⟩
 have ao':=GB.below z8.out z6.out;have UD:=GB.box Pc.out.1 Pc.out.2.1 Pc.out.2.2;have Vi:=aoU (eR.out g8 al9 Ky dY oA);rw[py] at Vi;have al':=aoU py;have Gp:=aoU ao';have y8:=aoU (λk (hk:Ky k)=>(oA.lt hk).1);have Pd:=aoU UD;clear oA GB Vh z6 z8 al8 Pc eR py ao' UD;go_wp2_with fail;refine Vi.out.mono ?_;rintro e ag⟨⟨Lf,Lg,vO,rfl,dQ,eX⟩,g9,cY,zZ,e9,Bk,zW⟩;have ot:=zW.below y8.out Gp.out;obtain⟨Fe,-,-⟩:=zW.box Pd.out.1 Pd.out.2.1 Pd.out.2.2
 obtain⟨wf,hwf⟩:=bB (ag.alloc (.cells #[.int .u64 2,.int .i64 3,.int .i64 aI,.int .u64 0,.int .i64 0,.int .i64 0,.int .u64 0,.slice (some ⟨Lf,Lg,none⟩) 1 vO] 32))
 have Ek:aoV ag wf:=by rw[hwf];exact(aoV.refl _).alloc _
 have jG:wf.heap[ag.heap.size]?=some (.cells #[.int .u64 2,.int .i64 3,.int .i64 aI,.int .u64 0,.int .i64 0,.int .i64 0,.int .u64 0,.slice (some ⟨Lf,Lg,none⟩) 1 vO] 32 (0,0)):=by rw[hwf];exact heap_alloc_new ag _
 obtain⟨pf,hpf⟩:=bB ag.heap.size
 rw[<- hpf] at jG;have iY:=aoW (aH Ek Fe) 6;have gK:=aoW jG 7;have s3:=(Ek.cell (Lib.lt_of_cell dQ)).trans dQ;have dP:=(Ek.cell (Lib.lt_of_cell eX)).trans eX;have vH:=ot.trans Ek;have Nk:∀W,aoV wf W->aoV wf W/\W.cell? ⟨pb,6,none⟩=some (.int .u64 8)/\W.cell? ⟨pf,7,none⟩=some (.slice (some ⟨Lf,Lg,none⟩) 1 vO)/\W.cell? ⟨Lf,Lg+3,none⟩=some (.int .u64 8)/\W.cell? ⟨Lf,Lg+4,none⟩=some (.int .i64 bu):=λW h=>
  ⟨h,(h.cell (Lib.lt_of_cell iY)).trans iY,(h.cell (Lib.lt_of_cell gK)).trans gK,(h.cell (Lib.lt_of_cell s3)).trans s3,(h.cell (Lib.lt_of_cell dP)).trans dP⟩
 have fT:=aoU vH;have AT:=aoU hwf;have bt:=aoU hpf;clear Bk zW Vi Gp y8 al' Pd e9 ot Fe dQ eX Ek jG iY gK s3 dP vH hwf hpf;go_wp2_with fail;rw[<- AT.out,<- bt.out];clear AT bt;apply V.fQ _ (by kernel_rfl) (by kernel_rfl) Nk
 .intro aF aoX;iterate 2 (apply V.aj.ok;intros;go_simp;rfl;rfl;go_frame)
  iterate 4 (apply V.aj.eI (t:=83);intros;go_simp;rfl;rfl;intro;rfl;go_frame)
  iterate 2 (apply V.aj.ok;intros;go_simp;rfl;rfl;go_frame)
  iterate 7 (apply V.aj.eI (t:=89);intros;go_simp;rfl;rfl;intro;rfl;go_frame)
  iterate 2 (apply V.aj.ok;intros;go_simp;rfl;rfl;go_frame)
  iterate 8 (apply V.aj.eI (t:=98);intros;go_simp;rfl;rfl;intro;rfl;go_frame)
  iterate 2 (apply V.aj.ok;intros;go_simp;rfl;rfl;go_frame)
  apply V.aj.p7 (t:=108) (.int .i64 3) [];rfl
  .intro vs;rfl
  .intro vs w1 hK hS _ K ah;go_simp;refine(alZ w1).mono ?_;rintro e w2⟨rfl,aq⟩;exact ah.out _ aq
  simp only[au,Nat.reduceAdd];iterate 1 (apply V.aj.eI (t:=108);intros;go_simp;rfl;rfl;intro;rfl;go_frame)
  iterate 2 (apply V.aj.ok;intros;go_simp;rfl;rfl;go_frame)
  apply V.aj.p7 (t:=112) (.bool true) [];rfl
  .intro vs;rfl
  .intro vs w1 hK hS _ K ah;go_simp;refine(al2.out w1 (cd.out.up (fT.out.trans hS.1))).mono ?_;rintro e w2⟨rfl,aq⟩;exact ah.out _ aq
  simp only[au,Nat.reduceAdd];iterate 2 (apply V.aj.ok;intros;go_simp;rfl;rfl;go_frame)
  apply V.aj.fin [];intro vs w1 hK hS _;refine aoX.out _ _ ?_;clear aoX;go_wp2_with fail;go_ret;exact⟨rfl,fT.out.trans (jR hK)⟩
 .kernel_rfl
end topNeed
end Go.Proofs.YtfghplfgndppfaaGreatDoor
