/- Texts of this claim, joined: TpW2, TpW3, EditW10, EditLaw, EditReg, EditW16, EditW17, StW3, StW4, OpenRI, EditW5, EditW7, EditW12, EditW13, EditLaw2. -/
import Derived.Deep.Cut
import Derived.IntWalk
import Derived.Test.YtfghplfgndppfaaGreatDoorZ10
import Derived.Test.YtfghplfgndppfaaGreatDoorZ11
set_option linter.unusedVariables false
set_option linter.unusedSimpArgs false
set_option maxRecDepth 100000
set_option maxHeartbeats 8000000
namespace Go.Proofs.YtfghplfgndppfaaGreatDoor
open Go.Proofs.Tryz
section
open Go.RowKit
structure em where
 m:eU
 A:Option Addr
 c:Nat
def nX(v:em):List Value:= [.int .i64 v.m.k,.int .i64 v.m.f,.int .i64 v.m.t,.int .u64 v.m.id,.int .u64 v.m.n,.slice v.A v.m.l.length v.c]
def dO(l:List em):List Value:=l.flatMap nX
theorem MH(a b:List em):dO (a++b)=dO a++dO b:=by simp[dO]
theorem MI(v:em):∀u∈nX v,u.oneCell'=true:=by
 intro u hu;simp only[nX,List.mem_cons,List.not_mem_nil,or_false] at hu;rcases hu with rfl|rfl|rfl|rfl|rfl|rfl <;>rfl
theorem QW:jr prog 78 135 6 64:=jr.mk' underlying78 (z:= .agg #[.int .i64 0,.int .i64 0,.int .i64 0,.int .u64 0,.int .u64 0,.slice none 0 0]) (by kernel_rfl) rfl (by decide)
theorem iL{w:World}{base n c:Nat}{e:TypeId}{sz:Nat}{A:Option Addr}{xs:List Value}(h:w.ownsRow base e sz (.slice A n c) n xs){k:Nat}(hk:bg A k):∃cs z,w.heap[k]?=some (.cells cs e z):=by
 obtain⟨a,rfl,rfl⟩:=hk;rcases h.2 with⟨hv,_⟩|⟨g,cap,cur,hv,hg,hh,r⟩
 .cases hv
 .injection hv with hA;injection hA with hA;subst hA;exact⟨_,_,hh⟩
theorem cS{w:World}{k:Nat}{cs cs':Array Value}{e e':TypeId}{z z':Nat×Nat}(h:w.heap[k]?=some (.cells cs e z))(h':w.heap[k]?=some (.cells cs' e' z')):e=e':=by
 rw[h] at h';injection h' with h';injection h' with _ h'
def qz(B g:Nat)(ms:List em):fy:=λK X w=>∃(L:Option Addr)(rc:Nat)(lost sent:Int),w.heap[g]?=some (.cells #[.int .i64 300,.slice L ms.length rc,.int .i64 lost,.int .i64 sent] 86 (0,0))/\B<=g/\w.ownsRow B 135 6 (.slice L ms.length rc) ms.length (dO ms)/\(∀k,X k↔(k=g\/bg L k))/\∀v∈ms,jB K w 5 v.A v.m.l.length (bl v.m.l)/\v.m.l.length<=v.c
theorem bH.net{B g:Nat}{ms:List em} :bH B (qz B g ms) where
 keep:=λ{K X Y w w'} ⟨L,rc,lost,sent,h1,h2,h3,h4,h5⟩ hK hn hk=>⟨L,rc,lost,sent,(hK.block g (aB h1) (hn g ((h4 g).2 (.inl rfl)))).trans h1,h2,iC h3 hK (λk hk=>hn k ((h4 k).2 (.inr hk))),h4,λv hv=>⟨(h5 v hv).1.keep hK hk,(h5 v hv).2⟩⟩
 more:=λ⟨L,rc,lost,sent,h1,h2,h3,h4,h5⟩ hK=>⟨L,rc,lost,sent,h1,h2,h3,h4,λv hv=>⟨(h5 v hv).1.more hK,(h5 v hv).2⟩⟩
 lt:=λ{K X w k} ⟨L,rc,lost,sent,h1,h2,h3,h4,h5⟩ hk=>by
  rcases (h4 k).1 hk with rfl|hk
  .exact⟨h2,(aB h1)⟩
  .obtain⟨a,rfl,rfl⟩:=hk;exact h3.lt a.block rfl
theorem ab6{B g:Nat}{ms:List em}{K X:aD}{w:World}(H:qz B g ms K X w)(hA:cy K X w)(hlen:ms.length<300)(v:em)(hv:Rd w w.heap.size 5 v.A v.m.l.length (bl v.m.l))(si:∀k,bW v.A k->¬X k)(hok:gT v.m=true):
 Calls prog 72 #[.pointer (some ⟨g,0,none⟩),.agg #[.int .i64 v.m.k,.int .i64 v.m.f,.int .i64 v.m.t,.int .u64 v.m.id,.int .u64 v.m.n,.slice v.A v.m.l.length v.c]] w λe w'=>e= .returned (.bool true)/\∃K' X' R rc,qz B g (ms++[⟨v.m,R,rc⟩]) K' X' w'/\aO K X w K' X' w'/\cy K' X' w':=by
 obtain⟨⟨mk,mf,mt,mid,mn,l⟩,A,ac⟩:=v;have yg:∀k,X k->k<w.heap.size:=λk hk=>(bH.net.lt H hk).2
 obtain⟨L,rc,lost,sent,hb,hB,hrow,hX,him⟩:=H;dsimp only at hv si hok|-;have hnl:l.length<=1500:=by
  unfold gT pM at hok;simp only[ij,lw] at hok;exact hok.1.2.2.2.2.2.2.1
 have iM:=λW (hW:Rd W W.heap.size 5 A l.length (bl l))=>zl (mk:Int) (mf:Int) (mt:Int) mid mn A l.length ac l W hW (by omega)
 have MJ:=λW (hW:Rd W W.heap.size 5 A l.length (bl l))=>Yi (mk:Int) (mf:Int) (mt:Int) mid mn A l.length ac l W hW (by omega)
 have gW:pM (mk:Int) (mf:Int) (mt:Int) mid mn l=true:=hok;rw[gW] at iM;have lj:=aoU iM;have apv:=aoU MJ;obtain⟨n,hn⟩:=bB ms.length
 obtain⟨an,kE⟩:=bB l.length
 rw[<- hn] at hb hrow hlen;have aQ:aoV w (w.alloc (.cells #[.int .i64 mk,.int .i64 mf,.int .i64 mt,.int .u64 mid,.int .u64 mn,.slice A l.length ac] 135)):=(aoV.refl w).alloc _;have aL:=bp w (.cells #[.int .i64 mk,.int .i64 mf,.int .i64 mt,.int .u64 mid,.int .u64 mn,.slice A l.length ac] 135);rw[<- kE] at aL aQ lj apv hnl hv|-;have QX:=hv.up aQ;have Dc:w.heap.size<=w.heap.size:=aZ _;have eG:=aB hb
 have yh:∀R rr,nX ⟨⟨mk,mf,mt,mid,mn,l⟩,R,rr⟩= [.int .i64 mk,.int .i64 mf,.int .i64 mt,.int .u64 mid,.int .u64 mn,.slice R an rr]:=λR rr=>by unfold nX;rw[kE]
 have Yo:=aoU yh;have ff:=aoU hn;have Bf:=aoU kE;clear hn kE iM MJ hok gW yh;go_enter func72,ntmps72
 go_wp2_with fail;generalize w.alloc (.cells #[.int .i64 mk,.int .i64 mf,.int .i64 mt,.int .u64 mid,.int .u64 mn,.slice A an ac] 135)=wa at *;generalize eH:w.heap.size=br at *;refine(lj.out wa QX).mono ?_;rintro e w1⟨rfl,hu1⟩;have hu:=aQ.trans hu1;have fe:=aH hu hb;have QY:=el hrow hu;have c3:=aoW fe 3;have f3:=ay fe 3;have zw:=aH hu1 aL;have sj:=QX.up hu1;clear aQ hu1 hb hrow aL QX hv lj;go_wp2_with fail;refine(ab2 g 3 sent 1 w1 c3 f3).mono ?_;generalize IntKind.i64.wrap (sent+1)=De at *;rintro e w2⟨rfl,rfl⟩
 have ao0:=bM w1 g 3 (.int .i64 De) _ _ fe;have fI:V.af (λx=>x=g) w1 (w1.setCell ⟨g,3,none⟩ (.int .i64 De)):=aoZ _ _ g 3 _ (V.af.refl _ _);generalize w1.setCell ⟨g,3,none⟩ (.int .i64 De)=w2 at *;have Yp:w2.heap[g]?=some (.cells #[.int .i64 300,.slice L n rc,.int .i64 lost,.int .i64 De] 86 (0,0)):=ao0;have Yq:∀W:World,W.ownsRow B 135 6 (.slice L n rc) n (dO ms)->(∃cs z,W.heap[g]?=some (.cells cs 86 z))->¬bg L g:=λW h1 ⟨cs,z,h2⟩ h3=>by
  obtain⟨cs',z',h4⟩:=iL h1 h3;exact absurd (cS h2 h4) (by decide)
 have Yr:¬bg L g:=Yq w1 QY ⟨_,_,fe⟩;have sU:=iC QY fI (λk hk e=>Yr (by have e:k=g:=e;rw[<- e];exact hk));have zx:=(fI.block br (aB zw) (by intro e;have e:br=g:=e;omega)).trans zw;have ab7:V.af X w w2:=ci (V.af.co hu) (eQ fI (λk hk=>(hX k).2 (.inl hk)));have sk:Rd w2 w2.heap.size 5 A an (bl l):=sj.kt (aZ _) (λa ha e=>si a.block ⟨a,ha,rfl⟩ ((hX _).2 (.inl e))) fI;clear ao0 fe QY zw sj c3 f3 fI;go_wp2_with fail;have amK:br<w2.heap.size:=aB zx
 have amL:B<=w2.heap.size:=by omega
 have QZ:∀k,bg L k->k<br:=λk hk=>yg k ((hX k).2 (.inr hk))
 have ab8:∀W,V.af (λk=>k=g\/bg L k) w2 W->True:=λ_ _=>trivial
 apply V.iE (λi vs W=>(V.af (λk=>k=g\/bg L k) w2 W/\W.heap[br]?=some (.cells #[.int .i64 mk,.int .i64 mf,.int .i64 mt,.int .u64 mid,.int .u64 mn,.slice A an ac] 135 (0,0)))/\
  (i<=3->W.heap[g]?=some (.cells #[.int .i64 300,.slice L n rc,.int .i64 lost,.int .i64 De] 86 (0,0)))/\
  (i<=2->W.ownsRow B 135 6 (.slice L n rc) n (dO ms))/\
  (i=1->∃R rr,vs 6= .agg #[.int .i64 mk,.int .i64 mf,.int .i64 mt,.int .u64 mid,.int .u64 mn,.slice R an rr]/\ej W w2.heap.size R an rr l)/\
  (i=2->∃R rr Q,vs 7= .slice (some ⟨Q,0,none⟩) 1 1/\W.ownsRow w2.heap.size 135 6 (.slice (some ⟨Q,0,none⟩) 1 1) 1 (nX ⟨⟨mk,mf,mt,mid,mn,l⟩,R,rr⟩)/\ej W w2.heap.size R an rr l)/\
  (i=3->∃R rr L' rc',vs 8= .slice L' (n+1) rc'/\W.ownsRow B 135 6 (.slice L' (n+1) rc') (n+1) (dO ms++nX ⟨⟨mk,mf,mt,mid,mn,l⟩,R,rr⟩)/\(∀k,bg L' k->bg L k\/w2.heap.size<=k)/\ej W w2.heap.size R an rr l)/\
  (i=4->∃R rr L' rc',W.heap[g]?=some (.cells #[.int .i64 300,.slice L' (n+1) rc',.int .i64 lost,.int .i64 De] 86 (0,0))/\W.ownsRow B 135 6 (.slice L' (n+1) rc') (n+1) (dO ms++nX ⟨⟨mk,mf,mt,mid,mn,l⟩,R,rr⟩)/\(∀k,bg L' k->bg L k\/w2.heap.size<=k)/\ej W w2.heap.size R an rr l))
  (by kernel_rfl) (by kernel_rfl) (λvs=>⟨⟨V.af.co (aoV.drew (aoV.refl w2)),aH (aoV.drew (aoV.refl w2)) zx⟩,λ_=>aH (aoV.drew (aoV.refl w2)) Yp,λ_=>el sU (aoV.drew (aoV.refl w2)),λe=>absurd e (by decide),λe=>absurd e (by decide),λe=>absurd e (by decide),λe=>absurd e (by decide)⟩)
 .intro aF aoX;iterate 4 (apply V.az.ok;intros;go_simp;rfl;rfl;go_frame)
  apply V.az.early 11 3
  .intro i vs ag hi hS;have c1:ag.cell? ⟨g,1,none⟩=some (.slice L n rc):=aoW (hS.2.1 hi) 1;clear hS;go_simp
   with_reducible rfl
  .rfl
  simp only[au,Nat.reduceAdd];apply V.az.ok
  .intro i vs ag hS;have aL:=hS.1.2;obtain⟨d0,d1,d2,d3,d4,d5⟩:=iQ aL;clear hS aL;go_simp
   with_reducible rfl
  .rfl
  simp only[au,Nat.reduceAdd];apply V.az.cG;rfl
  .intro vs ag hS cY ah;obtain⟨⟨k1,k2⟩,aY,cJ,-⟩:=hS;have aY:=aY (by decide);have cJ:=cJ (by decide);have Df:=sk.kt (aZ _) (λa ha e=>si a.block ⟨a,ha,rfl⟩ ((hX _).2 e)) k1;go_simp;refine(apv.out ag Df).mono ?_;rintro e ai⟨R,rr,rfl,ho,cI⟩;exact ah.out _ _ ⟨⟨ci k1 (V.af.co cI),aH cI k2⟩,λ_=>aH cI aY,λ_=>el cJ cI,λ_=>⟨R,rr,by rw[V.eV],jP ho k1.size⟩,λe=>absurd e (by decide),λe=>absurd e (by decide),λe=>absurd e (by decide)⟩
  simp only[au,Nat.reduceAdd];apply V.az.cG;rfl
  .intro vs ag hS cY ah;obtain⟨⟨k1,k2⟩,aY,cJ,eP,-⟩:=hS;have aY:=aY (by decide);have cJ:=cJ (by decide);obtain⟨R,rr,iq,ho⟩:=eP rfl
   (try dsimp only at ah|-)
   rw[iq] at ah|-;have ab9:=aoU iq;clear iq;have hal:=(aoV.refl ag).alloc (.cells #[.int .i64 mk,.int .i64 mf,.int .i64 mt,.int .u64 mid,.int .u64 mn,.slice R an rr] 135);have jW:=wt ag #[.int .i64 mk,.int .i64 mf,.int .i64 mt,.int .u64 mid,.int .u64 mn,.slice R an rr] 135 (base:=w2.heap.size) (sz:=6) (n:=1) k1.size rfl (by omega)
   have kK:=ah.out (.slice (some ⟨ag.heap.size,0,none⟩) 1 1) _ ⟨⟨ci k1 (V.af.co hal),aH hal k2⟩,λ_=>aH hal aY,λ_=>el cJ hal,λe=>absurd e (by decide),λ_=>⟨R,rr,ag.heap.size,by rw[V.eV],by rw[Yo.out];exact jW,el ho hal⟩,λe=>absurd e (by decide),λe=>absurd e (by decide)⟩;have Q0:=aoU kK;clear ah kK;go_simp;exact Q0.out
  simp only[au,Nat.reduceAdd];apply V.az.cG;rfl
  .intro vs ag hS cY ah;obtain⟨⟨k1,k2⟩,aY,cJ,-,eP,-⟩:=hS;have aY:=aY (by decide);have cJ:=cJ (by decide);obtain⟨R,rr,Q,hv7,h7,ho⟩:=eP rfl
   (try dsimp only at ah|-)
   rw[hv7] at ah|-;refine uP _ _ _ QW rfl rfl rfl cJ (Rd.own h7) (MI _) (by omega) (by omega) (by have:=k1.size;omega) λv' ai ho' hg' m8=>?_
   obtain⟨L',rc',rfl⟩:=eL ho';have hKr:=qZ cJ hg';have hat:=uY m8;refine ah.out _ _ ⟨⟨ci k1 (eQ hKr (λk hk=> .inr hk)),(hKr.block br (aB k2) (λe=>by have:=QZ br e;omega)).trans k2⟩,λ_=>(hKr.block g (aB aY) Yr).trans aY,λe=>absurd e (by decide),λe=>absurd e (by decide),λe=>absurd e (by decide),λ_=>⟨R,rr,L',rc',by rw[V.eV],ho',λk hk=>(hat k hk).imp id (λh=>bQ k1.size h),iC ho hKr (λk hk hf=>?_)⟩,λe=>absurd e (by decide)⟩;have h1:=QZ k hf
   obtain⟨a,rfl,rfl⟩:=hk;have:=(jO ho a.block rfl).1;omega
  simp only[au,Nat.reduceAdd];iterate 2 (apply V.az.ok;intros;go_simp;rfl;rfl;go_frame)
  apply V.az.call undef;rfl
  .intro vs ag hS cY ah;obtain⟨⟨k1,k2⟩,aY,-,-,-,eP,-⟩:=hS;have aY:=aY (by decide);obtain⟨R,rr,L',rc',nV,h8,hat,ho⟩:=eP rfl;have c1:ag.cell? ⟨g,1,none⟩=some (.slice L n rc):=aoW aY 1;have s1:=ay aY 1;have bC:=bM ag g 1 (.slice L' (n+1) rc') _ _ aY;have kQ:V.af (λx=>x=g) ag (ag.setCell ⟨g,1,none⟩ (.slice L' (n+1) rc')):=aoZ _ _ g 1 _ (V.af.refl _ _)
   have aS:=ah.out _ ⟨⟨ci k1 (eQ kQ (λk hk=> .inl hk)),(kQ.block br (aB k2) (by intro e;have e:br=g:=e;omega)).trans k2⟩,λe=>absurd e (by decide),λe=>absurd e (by decide),λe=>absurd e (by decide),λe=>absurd e (by decide),λe=>absurd e (by decide),λ_=>⟨R,rr,L',rc',bC,iC h8 kQ (λk hk e=>by
    have e:k=g:=e;subst e;obtain⟨cs',z',h4⟩:=iL h8 hk;exact absurd (cS aY h4) (by decide)),hat,iC ho kQ (λk hk e=>by
    have e:k=g:=e;obtain⟨a,rfl,rfl⟩:=hk;have:=(jO ho a.block rfl).1;omega)⟩⟩
   have aK:=aoU aS;clear ah aS bC h8 ho hat
   (try dsimp only at aK|-)
   rw[nV] at aK|-;clear nV;go_simp;exact aK.out
  simp only[au,Nat.reduceAdd];apply V.az.fin;intro vs ag hS;obtain⟨⟨k1,-⟩,-,-,-,-,-,eP⟩:=hS;obtain⟨R,rr,L',rc',aY,cJ,hat,ho⟩:=eP rfl;refine aoX.out _ _ ?_;clear aoX eP
  (try dsimp only)
  have Dg:V.af X w ag:=ci ab7 (eQ k1 (λk hk=>(hX k).2 hk));have Id:∀W,aoV ag W->aoV ag W/\W.cell? ⟨g,0,none⟩=some (.int .i64 300)/\W.cell? ⟨g,1,none⟩=some (.slice L' (n+1) rc'):=λW hW=>by
   have h9:=aH hW aY;exact⟨hW,aoW h9 0,aoW h9 1⟩
  have y1:decide ((300:Int)<(n:Int)+1)=false:=by rw[iO];omega
  have lZ:decide (300<n+1)=false:=by rw[iO];omega
  have hsz:=k1.size;have fV:=aoU k1;clear k1 Yp sU zx sk apv Yq ab8;go_wp2_with fail;apply V.fQ _ (by kernel_rfl) (by kernel_rfl) Id
  .intro aF aoX;iterate 10 (apply V.aj.ok;intros;go_simp;rfl;rfl;go_frame)
   apply V.aj.fin [];intro vs w1 hK hS _;refine aoX.out _ _ ?_;clear aoX;have bV:=jR hK;clear hS hK Id;go_wp2_with fail;go_ret;have mQ:=aH bV aY;have pE:=el cJ bV;have oU:ej w1 w2.heap.size R an rr l:=el ho bV;have np:∀k,bg R k->w2.heap.size<=k/\k<w1.heap.size:=λk hk=>by
    obtain⟨a,rfl,rfl⟩:=hk;exact jO oU a.block rfl
   refine⟨rfl,λk=>K k\/bg R k,λk=>k=g\/bg L' k,R,rr,⟨L',rc',lost,De,?_,hB,?_,λk=>Iff.rfl,λv hv=>?_⟩,⟨?_,λk hk=>?_,λk hk=> .inl hk,λk hk=>hk.imp id (λh=>?_)⟩,⟨λk hk hk2=>?_,λk hk=>?_⟩⟩
   .rw[dG,<- ff.out];exact mQ
   .rw[dG,<- ff.out,MH];simpa[dO] using pE
   .rcases List.mem_append.1 hv with hv|hv
    .exact⟨(((him v hv).1.keep Dg (λk hk hx=>hA.ap k hx hk)).up bV).more (λk hk=> .inl hk),(him v hv).2⟩
    .rw[fi] at hv;subst hv;dsimp only;rw[<- Bf.out];exact⟨⟨Rd.own oU,λh0 a ha=> .inr ⟨a,ha,rfl⟩⟩,sH oU⟩
   .exact ci Dg (V.af.co bV)
   .rcases hk with rfl|hk
    .exact .inl ((hX _).2 (.inl rfl))
    .rcases hat k hk with h|h
     .exact .inl ((hX k).2 (.inr h))
     .exact .inr (by omega)
   .have:=(np k h).1;omega
   .rcases hk with rfl|hk
    .rcases hk2 with h|h
     .exact hA.ap _ ((hX _).2 (.inl rfl)) h
     .have:=(np _ h).1;omega
    .rcases hk2 with h|h
     .rcases hat k hk with h9|h9
      .exact hA.ap k ((hX k).2 (.inr h9)) h
      .have:=hA.lt k h;omega
     .obtain⟨cs,z,q1⟩:=iL pE hk;obtain⟨cs',z',cP⟩:=iL oU h;exact absurd (cS q1 cP) (by decide)
   .rcases hk with h|h
    .have:=hA.lt k h;have:=bV.size;omega
    .exact(np k h).2
  .kernel_rfl
 .kernel_rfl
theorem aqh(v:em):(nX v).length=6:=rfl
theorem aqi(l:List em):(dO l).length=l.length*6:=Mc nX aqh l
theorem acs(l:List em):∀u∈dO l,u.oneCell'=true:=by
 intro u hu;simp only[dO,List.mem_flatMap] at hu;obtain⟨i,_,h⟩:=hu;exact MI i u h
theorem apY(l:List em)(k:Nat):(dO l).take (k*6)=dO (l.take k):=by
 induction l generalizing k with
 |nil=>simp[dO]
 |cons x l ih=>
  cases k with
  |zero=>simp[dO]
  |succ k=>
   have:=ih k;simp only[dO,List.flatMap_cons,List.take_succ_cons] at this|-;rw[List.take_append,lV (by rw[aqh];omega),aqh,show(k+1)*6-6=k*6 by omega,this]
theorem acu(l:List em)(k:Nat):(dO l).drop (k*6)=dO (l.drop k):=by
 induction l generalizing k with
 |nil=>simp[dO]
 |cons x l ih=>
  cases k with
  |zero=>simp[dO]
  |succ k=>
   have:=ih k;simp only[dO,List.flatMap_cons,List.drop_succ_cons] at this|-;rw[List.drop_append,List.drop_eq_nil_of_le (by rw[aqh];omega),aqh,show(k+1)*6-6=k*6 by omega,this,gY]
theorem YA:∃i,prog.info? 135=some i/\i.size=6/\i.zero=some (.agg #[.int .i64 0,.int .i64 0,.int .i64 0,.int .u64 0,.int .u64 0,.slice none 0 0]):=by
 obtain⟨i,hi,hz,hs,hby⟩:=info_parts (P:=prog) (e:=135) (z:= .agg #[.int .i64 0,.int .i64 0,.int .i64 0,.int .u64 0,.int .u64 0,.slice none 0 0]) (size:=6) (bytes:=64) (by kernel_rfl);exact⟨i,hi,hs,hz⟩
theorem acv(W:World)(ty:TypeId)(b o c:Nat)(hc:∀j,j<6->(W.cell? ⟨b,o+j,none⟩).isSome=true)(hf:∀j,j<6->W.frozen? ⟨b,o+j,none⟩=false):
 (Builtin.clear_ #[78] ty #[.slice (some ⟨b,o,none⟩) 1 c]).run prog W= .ok (.tuple #[]) (W.setCells b o [.int .i64 0,.int .i64 0,.int .i64 0,.int .u64 0,.int .u64 0,.slice none 0 0]):=by
 obtain⟨i,hi,hs,hz⟩:=YA;have hv:∀w,(zeroValue 135).run prog w= .ok (.agg #[.int .i64 0,.int .i64 0,.int .i64 0,.int .u64 0,.int .u64 0,.slice none 0 0]) w:=λw=>by
  have apd:Tryz.t135.zero=some (.agg #[.int .i64 0,.int .i64 0,.int .i64 0,.int .u64 0,.int .u64 0,.slice none 0 0]):=by kernel_rfl
  unfold zeroValue;simp[go_sem,apd]
 have hst:=run_storeCells_cells (P:=prog) b o [.int .i64 0,.int .i64 0,.int .i64 0,.int .u64 0,.int .u64 0,.slice none 0 0] 0 W (by simpa using hc) (by simpa using hf) (by intro v vg;simp at vg;rcases vg with rfl|rfl|rfl <;>rfl);simp only[Nat.add_zero] at hst;have CT:Builtin.zeroCells (Value.agg #[.int .i64 0,.int .i64 0,.int .i64 0,.int .u64 0,.int .u64 0,.slice none 0 0]).cells 1= #[.int .i64 0,.int .i64 0,.int .i64 0,.int .u64 0,.int .u64 0,.slice none 0 0]:=by
  apply Array.ext_getElem?;intro j;simp[Builtin.zeroCells,Value.cells]
  rcases j with _|_|_|_|_|_|j <;>simp
 have QC:(Builtin.zeroCells (Value.agg #[.int .i64 0,.int .i64 0,.int .i64 0,.int .u64 0,.int .u64 0,.slice none 0 0]).cells 1).toList= [.int .i64 0,.int .i64 0,.int .i64 0,.int .u64 0,.int .u64 0,.slice none 0 0]:=by rw[CT]
 simp[Builtin.clear_,run_underlying underlying78,hv,QC,CT,hst]
theorem acw(l:List em)(i:Nat)(cur:List Value)(n:Nat)(hi:i<n)(hn:n=l.length)(hc:cur.take (n*6)=dO l):
 (((cur.take (i*6)++dO (l.drop (i+1))++cur.drop (i*6+(dO (l.drop (i+1))).length)).take ((n-1)*6)++([.int .i64 0,.int .i64 0,.int .i64 0,.int .u64 0,.int .u64 0,.slice none 0 0]:List Value)++(cur.take (i*6)++dO (l.drop (i+1))++cur.drop (i*6+(dO (l.drop (i+1))).length)).drop ((n-1)*6+6)).take ((n-1)*6))=dO (l.eraseIdx i):=by
 have hl:(n*6)<=cur.length:=by
  have:=congrArg List.length hc;rw[kT,aqi] at this;omega
 have h1:cur.take (i*6)=dO (l.take i):=by rw[<- apY,<- hc,List.take_take];congr 1;omega
 have h2:(dO (l.drop (i+1))).length=(n-(i+1))*6:=by rw[aqi,List.length_drop,<- hn]
 have h3:(dO (l.take i)).length=i*6:=by rw[aqi,kT,<- hn,Nat.min_eq_left (by omega)]
 rw[h1];have h4:(dO (l.take i)++dO (l.drop (i+1))).length=(n-1)*6:=by rw[dG,h2,h3];omega
 generalize cur.drop (i*6+(dO (l.drop (i+1))).length)=Y;have h5:dO (l.eraseIdx i)=dO (l.take i)++dO (l.drop (i+1)):=by rw[List.eraseIdx_eq_take_drop_succ,MH]
 rw[h5];generalize dO (l.take i)++dO (l.drop (i+1))=X at *;rw[<- h4];have h6:(X++Y).take X.length=X:=List.take_left;rw[h6,jg,List.take_left]
theorem apZ(g n c base:Nat)(l:List em)(i:Nat)(w:World)(h:w.ownsRow base 135 6 (.slice (some ⟨g,0,none⟩) n c) n (dO l))(hi:i<n):
 Calls prog 75 #[.slice (some ⟨g,0,none⟩) n c,.int .i64 i,.int .i64 ((i:Int)+1)] w λe w'=>e= .returned (.slice (some ⟨g,0,none⟩) (n-1) c)/\w'.ownsRow base 135 6 (.slice (some ⟨g,0,none⟩) (n-1) c) (n-1) (dO (l.eraseIdx i))/\V.af (λx=>x=g) w w':=by
 obtain⟨it,hit,Is,abD⟩:=YA;have hlen:=h.1;rw[aqi] at hlen;obtain⟨cur,hg,hh,hnc,hcm,hcs,ht⟩:∃cur,base<=g/\w.heap[g]?=some (.cells cur 135 (0,0))/\n<=c/\c<=maxLen/\cur.size=c*6/\cur.toList.take (n*6)=dO l:=by
  rcases h.2 with⟨hv,h0⟩|⟨g',cap,cur,hv,hg,hh,hnc,hcm,hcs,ht⟩
  .omega
  .injection hv with h1 h2 h3;injection h1 with h1;injection h1 with h1;subst h1;subst h3;exact⟨cur,hg,hh,hnc,hcm,hcs,ht⟩
 obtain⟨news,hnews⟩:=bB (dO (l.drop (i+1)))
 have hnl:news.length=(n-(i+1))*6:=by rw[hnews,aqi,List.length_drop];omega
 have aS:=acw l i cur.toList n hi (by omega) ht;rw[<- hnews] at aS;have hone:Hid (∀u∈news,u.oneCell'=true):=by rw[hnews];exact acs _
 have hcell:∀j,j<c*6->∃u,w.cell? ⟨g,j,none⟩=some u:=λj hj=>⟨_,by rw[aoW hh,mV (by omega)]⟩
 have hsrc:Hid (∀t u,news[t]?=some u->w.drew.cell? ⟨g,(i+1)*6+t,none⟩=some u):=by
  intro t u hu;have h1:t<news.length:=(gM hu);show w.cell? _=_;rw[aoW hh,<- Array.getElem?_toList];have h2:(dO l)[(i+1)*6+t]?=some u:=by rw[<- hu,hnews,<- acu,List.getElem?_drop]
  rw[<- h2,<- ht,List.getElem?_take_of_lt (by omega)]
 have hspare:Hid (∀t,t<news.length->(w.drew.cell? ⟨g,0+i*6+t,none⟩).isSome=true/\w.drew.frozen? ⟨g,0+i*6+t,none⟩=false):=by
  intro t ht';rw[dV];obtain⟨u,hu⟩:=hcell (i*6+t) (by omega);exact⟨by show(w.cell? _).isSome=true;rw[hu];rfl,ay hh _⟩
 obtain⟨W1,wV⟩:=bB (w.drew.setCells g (0+i*6) news)
 obtain⟨EW,oV,hc1⟩:=Iq g 135 news (i*6) w.drew cur hh (by omega);rw[dV] at wV;rw[<- wV] at oV;have hs1:EW.size=c*6:=by
  have:=congrArg List.length hc1;rw[dG,dG,kT,List.length_drop,Array.length_toList,Array.length_toList] at this;omega
 have cn:∀ty,(Builtin.clear_ #[78] ty #[.slice (some ⟨g,(n-1)*6,none⟩) 1 (c-(n-1))]).run prog W1= .ok (.tuple #[]) (W1.setCells g ((n-1)*6) [.int .i64 0,.int .i64 0,.int .i64 0,.int .u64 0,.int .u64 0,.slice none 0 0]):=λty=>
  acv W1 ty g _ _ (λj hj=>by rw[aoW oV,mV (by omega)];rfl) (λj hj=>ay oV _)
 obtain⟨QD,wW,kJ⟩:=Iq g 135 [.int .i64 0,.int .i64 0,.int .i64 0,.int .u64 0,.int .u64 0,.slice none 0 0] ((n-1)*6) W1 EW oV (by simp;omega);have hK:V.af (λx=>x=g) w (W1.setCells g ((n-1)*6) [.int .i64 0,.int .i64 0,.int .i64 0,.int .u64 0,.int .u64 0,.slice none 0 0]):=Ir g _ _ _ _ (by rw[wV];exact Ir g _ _ _ _ ⟨rfl,rfl,rfl,aZ _,λ_ _ _=>rfl⟩)
 have hown:(W1.setCells g ((n-1)*6) [.int .i64 0,.int .i64 0,.int .i64 0,.int .u64 0,.int .u64 0,.slice none 0 0]).ownsRow base 135 6 (.slice (some ⟨g,0,none⟩) (n-1) c) (n-1) (dO (l.eraseIdx i)):=by
  refine⟨by rw[aqi,List.length_eraseIdx,if_pos (by omega)];omega,.inr ⟨g,c,QD,rfl,hg,wW,by omega,hcm,?_,?_⟩⟩
  .have:=congrArg List.length kJ;rw[dG,dG,kT,List.length_drop,Array.length_toList,Array.length_toList] at this;simp at this;omega
  .rw[kJ,hc1];exact aS
 have fT:=aoU wV;have fV:=aoU hK;have cO:=aoU hown;clear wV hK hown oV hc1 hs1 wW kJ aS hcell hh hcs ht h hnews;have iS:(i:Int)+1<=(n:Int):=by omega
 have z2:(n:Int)<=(c:Int):=by omega
 have z3:(i:Int)<=(c:Int):=by omega
 have z4:((i:Int)+1).toNat=i+1:=by omega
 have z5:¬((i:Int)=(i:Int)+1):=by omega
 have VU:¬n=i:=by omega
 have VS:(0:Int)<=(i:Int)+1:=by omega
 have VV:(i:Int)+1<=(c:Int):=by omega
 go_enter func75,ntmps75
 go_wp2_with fail;have mixed:prog.follows .mixedOrders=true:=by kernel_rfl
 by_cases jS:c=i+1
 .have hn0:news.length=0:=by rw[hnl];omega
  have hni:n=i+1:=by omega
  have hnil:news= []:=List.length_eq_zero_iff.1 hn0;subst jS;subst hni;have y1:(i:Int)<=(i:Int)+1:=by omega
  have lZ:i<=i+1:=by omega
  go_region_law_o (refine step_append_room rfl (.tmp 22) (.tmp 25) 78 rfl 135 it 6 underlying78 hit Is g 0 i (i+1) (by simp[Act.eval,Act.put]) ⟨g,0,none⟩ 0 0 news (by simp[Act.eval,Act.put]) hn0 (λt u hu=>by rw[hnil] at hu;simp at hu) hone.out (by omega) hspare.out ?_;rw[dV,<- fT.out])
  have E':=λty=>cn ty
  rw[show i+1-1=i by omega,show i+1-i=1 by omega] at E';go_wp2_with fail;go_ret;exact⟨rfl,cO.out,fV.out⟩
 .go_region_law_o (refine step_append_room rfl (.tmp 22) (.tmp 25) 78 rfl 135 it 6 underlying78 hit Is g 0 i c (by simp[Act.eval,Act.put]) ⟨g,(i+1)*6,none⟩ (n-(i+1)) (c-(i+1)) news (by simp[Act.eval,Act.put]) hnl (λt u hu=>by rw[W9];exact hsrc.out t u hu) hone.out (by omega) hspare.out ?_;rw[dV,<- fT.out])
  have e1:i+(n-(i+1))=n-1:=by omega
  simp only[e1];have y1:((n-1:Nat):Int)<=(n:Int):=by omega
  have lZ:((n-1:Nat):Int)<=(c:Int):=by omega
  have wT:(0:Int)<=((n-1:Nat):Int):=by omega
  have oe:¬c=n-1:=by omega
  have vk:n-(n-1)=1:=by omega
  go_wp2_with fail;go_ret;exact⟨rfl,cO.out,fV.out⟩
theorem YJ(l:List dM):∀k,k<=l.length->(tA l k=true↔(∀x∈l.take k,nQ x=true)/\((l.take k).map λf=>f.2).Nodup)
 |0,_=>by simp[tA]
 |k+1,h=>by
  have hk:k<l.length:=by omega
  have hg:l.getD k (0,0)=l[k]:=by simp[List.getD,hk]
  rw[Mr,hg,ij,ij,YJ l k (by omega),lU hk,kU,List.nodup_append];simp only[List.mem_append,fi,List.map_cons,List.map_nil,Bool.not_eq_true',List.any_eq_false,decide_eq_true_eq,List.mem_map];constructor
  .rintro⟨⟨h1,h2⟩,h3,h4⟩;refine⟨λx hx=>hx.elim (h1 x) (λe=>e▸h3),h2,by simp,?_⟩;rintro a⟨x,hx,rfl⟩ b rfl;exact h4 x hx
  .rintro⟨h1,h2,_,h4⟩;exact⟨⟨λx hx=>h1 x (.inl hx),h2⟩,h1 _ (.inr rfl),λx hx=>h4 _ ⟨x,hx,rfl⟩ _ rfl⟩
theorem acK(l:List dM):tA l l.length=true↔(∀x∈l,nQ x=true)/\(l.map λf=>f.2).Nodup:=by
 have:=YJ l l.length (aZ _)
 rwa[List.take_length] at this
theorem acL(am:Int)(l:List dM)(f ce at_ le:Nat):wU am l f ce at_ le=true↔kh am=true/\l.length<=40/\ [f,ce,at_,le].all nR=true/\(∀x∈l,nQ x=true)/\(l.map λf=>f.2).Nodup:=by
 unfold wU;rw[ij,ij,ij,acK,lw];constructor
 .rintro⟨⟨⟨h1,h2⟩,h3⟩,h4,h5⟩;exact⟨h1,h2,h3,h4,h5⟩
 .rintro⟨h1,h2,h3,h4,h5⟩;exact⟨⟨⟨h1,h2⟩,h3⟩,h4,h5⟩
abbrev oy:=Int×List dM×Nat×Nat×Nat×Nat
def I6(x:oy)(R:Option Addr)(n:Nat):Value:= .agg #[.int .i64 x.1,.slice R n n,.int .u64 x.2.2.1,.int .u64 x.2.2.2.1,.int .u64 x.2.2.2.2.1,.int .u64 x.2.2.2.2.2]
def uy(x:oy)(R:Option Addr)(n:Nat):Value:= .tuple #[I6 x R n,.bool true]
theorem Rl{x:oy}{R R':Option Addr}{n:Nat}(h:uy x R n=uy x R' n):R=R':=by
 simp[uy,I6] at h
 exact h
def YK(x:oy)(n:Nat)(v:Value)(g:Nat):Prop:=∃o s,v=uy x (some ⟨g,o,s⟩) n
def GT(x:oy)(n B:Nat)(v:Value)(W:World):Prop:=∃R,v=uy x R n/\Rd W W.heap.size 2 R n (dR x.2.1)/\∀a,R=some a->B<=a.block
theorem GT.tW{x:oy}{n B:Nat}{v:Value}{w w':World}{Y:Nat->Prop}(h:GT x n B v w)(hs:V.qQ (λg=>Y g\/YK x n v g) w w'):GT x n B v w':=by
 obtain⟨R,rfl,hrd,hb⟩:=h;refine⟨R,rfl,⟨hrd.1,λhn=>?_⟩,hb⟩;obtain⟨b,o,rfl,hlt,hc⟩:=hrd.2 hn;exact⟨b,o,rfl,cg hlt hs.size,λj u hu=>VL hs (hc j u hu) (.inr ⟨o,none,rfl⟩)⟩
theorem Rd.YL{w w':World}{B sz n g:Nat}{A:Option Addr}{xs:List Value}(h:Rd w B sz A n xs)(hB:B<=w.heap.size)(hne:∀a,A=some a->a.block≠g)(hK:V.af (λy=>y=g) w w'):Rd w' w'.heap.size sz A n xs:=by
 refine⟨h.1,λhn=>?_⟩;obtain⟨b,o,rfl,hb,hc⟩:=h.2 hn;refine⟨b,o,rfl,cg (cg hb hB) hK.size,λj u hu=>?_⟩;exact(mv (hK.block b (cg hb hB) (hne _ rfl))).trans (hc j u hu)
structure Dq(am:Int)(l:List dM)(f ce at_ le:Nat)(g:Nat)(A:Option Addr)(n:Nat)(w:World):Prop where
 blk:w.heap[g]?=some (.cells #[.int .i64 am,.slice A n n,.int .u64 f,.int .u64 ce,.int .u64 at_,.int .u64 le] 202 (0,0))
 rd:Rd w w.heap.size 2 A n (dR l)
theorem Dq.up{am:Int}{l:List dM}{f ce at_ le g n:Nat}{A:Option Addr}{w w':World}(h:Dq am l f ce at_ le g A n w)(hu:aoV w w'):Dq am l f ce at_ le g A n w':=
 ⟨(fP hu h.blk),h.rd.up hu⟩
theorem Dq.lt{am:Int}{l:List dM}{f ce at_ le g n:Nat}{A:Option Addr}{w:World}(h:Dq am l f ce at_ le g A n w):g<w.heap.size:=aB h.blk
theorem Dq.len{am:Int}{l:List dM}{f ce at_ le g n:Nat}{A:Option Addr}{w:World}(h:Dq am l f ce at_ le g A n w):n=l.length:=h.rd.ly
theorem vy:(prog.info? 202).map (·.size)=some 6:=by kernel_rfl
theorem Zb(A:Option Addr)(n c:Nat)(w:World)(h:n<=c)(hn:n<=1000000):
 Calls prog 164 #[.slice A n c] w λe w'=>e= .returned (.slice A n n)/\w=w':=by
 go_enter func164,ntmps164
 go_wp2_with fail;go_ret;exact⟨rfl,rfl⟩
theorem adf(A:Option Addr)(n c:Nat)(l:List aC)(w:World)(hr:Rd w w.heap.size 5 A n (bl l))(hn:n<=1000000):
 Calls prog 173 #[.slice A n c] w λe w'=>∃R rc,e= .returned (.slice R n rc)/\ej w' w.heap.size R n rc l/\aoV w w':=by
 go_enter func173,ntmps173
 go_wp2_with (at_builtin;refine iF _ AO (fC _ w.heap.size _ _) hr (CI _) (by omega) (by omega) (by omega) rfl rfl rfl rfl ?_;intro v5 ai dN eh om;obtain⟨bZ,dC,rfl⟩:=eL dN)
 have cI:aoV w ai:=(aoV.refl w).grown eh (λg hg=>by cases hg);rw[dV,gY] at dN
 (try rw[dV])
 go_ret;exact⟨bZ,dC,rfl,dN,cI⟩
def Bm(g:Nat)(lb:Array Value)(p:aC->Bool)(w:World):Prop:=∀(W:World)(x:aC),aoV w W->Calls prog g (#[Bl x]++lb) W λe w'=>e= .returned (.bool (p x))/\aoV W w'
theorem Zc(g:Nat)(lb:Array Value)(p:aC->Bool)(A:Option Addr)(n c:Nat)(l:List aC)(w:World)(hr:Rd w w.heap.size 5 A n (bl l))(hn:n<=9223372036854775807)(eg:∀args w,(callFunc g args).run prog w= .ok (.enter g args) w)(hp:Bm g lb p w):
 Calls prog 192 #[.slice A n c,.func (.func g) #[] lb] w λe w'=>e= .returned (.int .i64 (nP p l))/\aoV w w':=by
 have bU:=aoU hr.og;have ib:=aoU hp;clear hp;go_enter func192,ntmps192
 go_wp2_with fail;go_loopw[8] (λi wr=>∃k:Nat,i= .int .i64 k/\k<=n/\Hid (∀j (hj:j<k) (hl:j<l.length),p l[j]=false)/\aoV w wr) (λi _=>n-(intOf i).toNat)
 case atStart=>exact⟨0,rfl,by omega,λj hj=>absurd hj (Nat.not_lt_zero _),aoV.refl _⟩
 case round=>
  obtain⟨k,rfl,hk,hall,hu⟩:=hrel;by_cases hlt:k<n
  .have bS:k<l.length:=by have:=bU.out;omega
   obtain⟨b,o,x,rfl,hb,hx,c0,c1,c2,c3,c4⟩:=(hr.stay (aZ _) hu).wI hlt;rw[dh bS] at hx;injection hx with hx;have ew:=aoU hx;clear hx;have gQ:=ib.out wr x hu;go_wp2_with fail;refine gQ.mono ?_;rintro e w2⟨rfl,aq⟩;obtain⟨q,hq⟩:=bB (p x)
   rw[<- hq];have ji:=aoU hq;clear hq c0 c1 c2 c3 c4 gQ;cases q
   .go_wp2_with fail;go_roundw
    case rel=>
     refine⟨k+1,by go_num,by omega,?_,hu.trans aq⟩;intro j hj hl;by_cases hjk:j=k
     .subst hjk;rw[ew.out,<- ji.out]
     .exact hall.out j (by omega) hl
    case measure=>simp[intOf];omega
   .go_wp2_with fail;go_ret;refine⟨?_,hu.trans aq⟩;rw[apu (k:=k) bS (λj hj=>hall.out j hj (by omega)) (by rw[ew.out,<- ji.out])];rfl
  .go_wp2_with fail;go_ret;refine⟨?_,hu⟩;rw[E9 (λj hj=>hall.out j (by have:=bU.out;omega) hj)];rfl
theorem Zd(g:Nat)(lb:Array Value)(p:aC->Bool)(A:Option Addr)(n c:Nat)(l:List aC)(w:World)(hr:Rd w w.heap.size 5 A n (bl l))(hn:n<=9223372036854775807)(eg:∀args w,(callFunc g args).run prog w= .ok (.enter g args) w)(hp:Bm g lb p w):
 Calls prog 126 #[.slice A n c,.func (.func g) #[] lb] w λe w'=>e= .returned (.bool (l.any p))/\aoV w w':=by
 have iw:=aoU (Io p l);have bh:=aoU (Zc g lb p A n c l w hr hn eg hp);clear hp;go_enter func126,ntmps126
 go_wp2_with fail;refine bh.out.mono ?_;rintro e w1⟨rfl,hu⟩;generalize nP p l=z at *;go_wp2_with fail;go_ret;refine⟨aqg ?_,hu⟩;rw[<- iw.out]
theorem adg(g:Nat)(lb:Array Value)(p:aC->Bool)(A:Option Addr)(n c:Nat)(l:List aC)(w:World)(hr:Rd w w.heap.size 5 A n (bl l))(hn:n<=9223372036854775807)(eg:∀args w,(callFunc g args).run prog w= .ok (.enter g args) w)(hp:Bm g lb p w)(h0:∀x∈l,p x=false):
 Calls prog 208 #[.slice A n c,.func (.func g) #[] lb] w λe w'=>e= .returned (.slice A n c)/\aoV w w':=by
 have hz:nP p l= -1:=E9 (λj hj=>h0 _ (List.getElem_mem hj));have hx:=Zc g lb p A n c l w hr hn eg hp;rw[hz] at hx;have bh:=aoU hx;clear hp hx hz h0;go_enter func208,ntmps208
 go_wp2_with fail;refine bh.out.mono ?_;rintro e w1⟨rfl,hu⟩;go_wp2_with fail;go_ret;exact⟨rfl,hu⟩
theorem adh(g:Nat)(lb:Array Value)(p:aC->Bool)(A:Option Addr)(n c:Nat)(l:List aC)(w:World)(hr:Rd w w.heap.size 5 A n (bl l))(hn:n<=1000000)(eg:∀args w,(callFunc g args).run prog w= .ok (.enter g args) w)(hp:Bm g lb p w):
 Calls prog 133 #[.slice A n c,.func (.func g) #[] lb] w λe w'=>∃R m,e= .returned (.slice R m m)/\m<=n/\(∃rc,ej w' w.heap.size R m rc (l.filter p))/\aoV w w':=by
 have bU:=aoU hr.og;have ib:=aoU hp;have mc:ej w w.heap.size none 0 0 ((l.take 0).filter p):=fC _ _ _ _;have mc:=aoU mc;clear hp;go_enter func133,ntmps133
 go_wp2_with fail;go_loopw[5,10] (λout i wr=>∃(k j:Nat)(Q:Option Addr)(ip:Nat),i= .int .i64 k/\out= .slice Q j ip/\k<=n/\j<=k/\ej wr w.heap.size Q j ip ((l.take k).filter p)/\aoV w wr) (λ_ i _=>n-(intOf i).toNat)
 case atStart=>exact⟨0,0,none,0,rfl,rfl,by omega,by omega,mc.out,aoV.refl _⟩
 case round=>
  obtain⟨k,j,Q,ip,rfl,rfl,hk,hjk,hown,hu⟩:=hrel;by_cases hlt:k<n
  .have bS:k<l.length:=by have:=bU.out;omega
   obtain⟨b,o,x,rfl,hb,hx,c0,c1,c2,c3,c4⟩:=(hr.stay (aZ _) hu).wI hlt;have hx2:l[k]=x:=by rw[dh bS] at hx;injection hx
   have jF:(l.take (k+1)).filter p=(l.take k).filter p++(if p x=true then [x] else []):=by
    rw[lU bS,List.filter_append,hx2];cases hpx:p x <;>simp[hpx]
   have kW:=aoU jF;have hal:aoV wr (wr.alloc (.cells #[.int .i64 x.s.toInt,.int .i64 x.k.toInt,.int .u64 x.t.toNat,.int .u64 x.v.toNat,.int .i64 x.x.toInt] 37)):=(aoV.refl wr).alloc _;have gQ:=ib.out _ x (hu.trans hal);have FC:=aoU gQ;clear hx hx2 jF gQ;go_wp2_with fail;refine FC.out.mono ?_;rintro e w4⟨rfl,eO⟩;have tp:=P6 wr x rfl w4 eO;have mS:aoV wr w4:=hal.trans eO;have ts:=el hown mS;have Rt:=hu.trans mS;obtain⟨q,hq⟩:=bB (p x)
   rw[<- hq] at kW|-;clear hq c0 c1 c2 c3 c4 hal eO mS hown hu FC;cases q
   .have hsk:(l.take (k+1)).filter p=(l.take k).filter p:=by rw[kW.out];simp
    rw[<- hsk] at ts;clear kW hsk;go_wp2_with fail;go_roundw
    case rel=>exact⟨k+1,j,Q,ip,by go_num,rfl,by omega,by omega,ts,Rt⟩
    case measure=>simp[intOf];omega
   .have hsk:(l.take (k+1)).filter p=(l.take k).filter p++[x]:=by rw[kW.out];simp
    have adi:=aoU hsk;clear kW hsk;go_wp2_with (at_builtin;refine iF _ AO (news:=bl [x]) (lu ts _) (Rd.Wr _ [x] _ _ (by simp) rfl) (CI _) (by simp;omega) (by simp;omega) (by simp;have:=Rt.size;omega) rfl rfl rfl rfl ?_;intro v6 cH jw fW t8;obtain⟨pa,d6,rfl⟩:=eL jw)
    have eZ:aoV w cH:=(Rt.alloc _).grown fW (λg hg=>(jO ts g hg).1);have vn:ej cH w.heap.size pa (j+1) d6 ((l.take (k+1)).filter p):=by
     unfold ej;rw[adi.out,Wq];exact jw
    go_roundw
    case rel=>exact⟨k+1,j+1,pa,d6,by go_num,rfl,by omega,by omega,vn,eZ⟩
    case measure=>simp[intOf];omega
  .have i1:¬(k:Int)<(n:Int):=by omega
   obtain rfl:k=n:=by omega
   have hall:l.take k=l:=lV (by have:=bU.out;omega);rw[hall] at hown;have cn:=sH hown;go_wp2_with fail;refine(Zb Q j ip wr cn (by omega)).mono ?_;rintro e w4⟨rfl,rfl⟩;go_wp2_with fail;go_ret;exact⟨Q,j,rfl,hjk,⟨ip,hown⟩,hu⟩
theorem adj(g:Nat)(s:Int64)(w:World)(hg:g<w.heap.size)(hc:w.cell? ⟨g,0,none⟩=some (.int .i64 s.toInt)):Bm 196 #[.pointer (some ⟨g,0,none⟩)] (λx=>decide (x.s=s)) w:=by
 intro W x hW;have hc0:W.cell? ⟨g,0,none⟩=some (.int .i64 s.toInt):=(hW.cell (p:=⟨g,0,none⟩) hg).trans hc;have Ru:g<W.heap.size:=cg hg hW.size;have h0:aoV W (W.alloc (.cells #[.int .i64 x.s.toInt,.int .i64 x.k.toInt,.int .u64 x.t.toNat,.int .u64 x.v.toNat,.int .i64 x.x.toInt] 37)):=(aoV.refl W).alloc _;have kJ:=(h0.cell (p:=⟨g,0,none⟩) Ru).trans hc0;have hc1:(W.alloc (.cells #[.int .i64 x.s.toInt,.int .i64 x.k.toInt,.int .u64 x.t.toNat,.int .u64 x.v.toNat,.int .i64 x.x.toInt] 37)).cell? ⟨W.heap.size,0,none⟩=some (.int .i64 x.s.toInt):=by simp
 have hd:decide (x.s=s)=decide (x.s.toInt=s.toInt):=by
  rw[decide_eq_decide];exact⟨λh=>by rw[h],λh=>Int64.toInt_inj.1 h⟩
 have iT:=aoU hd;clear hd;go_enter func196,ntmps196
 go_wp2_with fail;go_ret;refine⟨aqg ?_,h0⟩;rw[iT.out,Bool.eq_iff_iff];simp
theorem Ze(A:Option Addr)(n c:Nat)(l:List aC)(s:Int64)(w:World)(hr:Rd w w.heap.size 5 A n (bl l))(hn:n<=1000000):
 Calls prog 132 #[.slice A n c,.int .i64 s.toInt] w λe w'=>∃R m,e= .returned (.slice R m m)/\m<=n/\(∃rc,ej w' w.heap.size R m rc (rq l s))/\aoV w w':=by
 have ao6:aoV w (w.alloc (.cells #[.int .i64 s.toInt] 3)):=(aoV.refl w).alloc _;have aL:=bp w (.cells #[.int .i64 s.toInt] 3);have kL:=hr.up ao6;have eH:=aB aL;have hT:=adj w.heap.size s _ eH (aoW aL 0);have hc:=adh 196 #[.pointer (some ⟨w.heap.size,0,none⟩)] (λx=>decide (x.s=s)) A n c l _ kL hn (by intro args W;rfl) hT;have bh:=aoU hc;clear hc hT hr kL;go_enter func132,ntmps132
 go_wp2_with fail;refine bh.out.mono ?_;rintro e w1⟨R,m,rfl,hm,⟨rc,hown⟩,hu⟩;go_wp2_with fail;go_ret;exact⟨R,m,rfl,hm,⟨rc,jP hown ao6.size⟩,ao6.trans hu⟩
end
section
open Go.ChangeShapes Go.WideShapes Go.ChangeAt Go.RowKit Go.Deep
section
variable{H:Type}{enc:TypeId×Value->H}{W:World}{sp:Nat->Bool}{a:Option Addr}{len cap:Nat}{d:DataW H}{p:List MemPlace}
instance:Inhabited { r:lG // adJ W r.A r.n r.c r.l } :=⟨⟨⟨none,0,0,[]⟩,Rd.empty,by simp,by simp⟩⟩
end
end
section
open Go.RowKit
theorem FO(w:World)(g:Nat)(a0 a1 a2 a3 a4 a5 a6 v0 v1 v2 v3 v4 v5 v6:Value)(t:TypeId)(h:w.heap[g]?=some (.cells #[a0,a1,a2,a3,a4,a5,a6] t (0,0))):
 (((((((w.setCell ⟨g,0,none⟩ v0).setCell ⟨g,1,none⟩ v1).setCell ⟨g,2,none⟩ v2).setCell ⟨g,3,none⟩ v3).setCell ⟨g,4,none⟩ v4).setCell ⟨g,5,none⟩ v5).setCell ⟨g,6,none⟩ v6).heap[g]?=some (.cells #[v0,v1,v2,v3,v4,v5,v6] t (0,0))/\
 V.af (λx=>x=g) w (((((((w.setCell ⟨g,0,none⟩ v0).setCell ⟨g,1,none⟩ v1).setCell ⟨g,2,none⟩ v2).setCell ⟨g,3,none⟩ v3).setCell ⟨g,4,none⟩ v4).setCell ⟨g,5,none⟩ v5).setCell ⟨g,6,none⟩ v6):=by
 have e0:(w.setCell ⟨g,0,none⟩ v0).heap[g]?=some (.cells #[v0,a1,a2,a3,a4,a5,a6] t (0,0)):=bM _ g 0 v0 _ _ h;have e1:((w.setCell ⟨g,0,none⟩ v0).setCell ⟨g,1,none⟩ v1).heap[g]?=some (.cells #[v0,v1,a2,a3,a4,a5,a6] t (0,0)):=bM _ g 1 v1 _ _ e0;have e2:(((w.setCell ⟨g,0,none⟩ v0).setCell ⟨g,1,none⟩ v1).setCell ⟨g,2,none⟩ v2).heap[g]?=some (.cells #[v0,v1,v2,a3,a4,a5,a6] t (0,0)):=bM _ g 2 v2 _ _ e1
 have bG:((((w.setCell ⟨g,0,none⟩ v0).setCell ⟨g,1,none⟩ v1).setCell ⟨g,2,none⟩ v2).setCell ⟨g,3,none⟩ v3).heap[g]?=some (.cells #[v0,v1,v2,v3,a4,a5,a6] t (0,0)):=bM _ g 3 v3 _ _ e2;have bT:(((((w.setCell ⟨g,0,none⟩ v0).setCell ⟨g,1,none⟩ v1).setCell ⟨g,2,none⟩ v2).setCell ⟨g,3,none⟩ v3).setCell ⟨g,4,none⟩ v4).heap[g]?=some (.cells #[v0,v1,v2,v3,v4,a5,a6] t (0,0)):=bM _ g 4 v4 _ _ bG
 have dt:((((((w.setCell ⟨g,0,none⟩ v0).setCell ⟨g,1,none⟩ v1).setCell ⟨g,2,none⟩ v2).setCell ⟨g,3,none⟩ v3).setCell ⟨g,4,none⟩ v4).setCell ⟨g,5,none⟩ v5).heap[g]?=some (.cells #[v0,v1,v2,v3,v4,v5,a6] t (0,0)):=bM _ g 5 v5 _ _ bT;have jV:(((((((w.setCell ⟨g,0,none⟩ v0).setCell ⟨g,1,none⟩ v1).setCell ⟨g,2,none⟩ v2).setCell ⟨g,3,none⟩ v3).setCell ⟨g,4,none⟩ v4).setCell ⟨g,5,none⟩ v5).setCell ⟨g,6,none⟩ v6).heap[g]?=some (.cells #[v0,v1,v2,v3,v4,v5,v6] t (0,0)):=bM _ g 6 v6 _ _ dt
 exact⟨jV,aoZ _ _ _ _ _ (aoZ _ _ _ _ _ (aoZ _ _ _ _ _ (aoZ _ _ _ _ _ (aoZ _ _ _ _ _ (aoZ _ _ _ _ _ (aoZ _ _ _ _ _ (V.af.refl _ _)))))))⟩
theorem afn(am:Int)(A:Option Addr)(n c:Nat)(l:List dM)(f ce at_ le:Nat)(w:World)(hr:Rd w w.heap.size 2 A n (dR l))(hn:n<=1099511627776):
 Calls prog 242 #[.agg #[.int .i64 am,.slice A n c,.int .u64 f,.int .u64 ce,.int .u64 at_,.int .u64 le]] w
  λe w'=>∃R rc,e= .returned (.agg #[.slice none 0 0,.slice R n rc,.int .i64 am,.int .u64 f,.int .u64 ce,.int .u64 at_,.int .u64 le])/\Rd w' w'.heap.size 2 R n (dR l)/\aoV w w':=by
 obtain⟨w2,pJ⟩:=bB ((w.alloc (.cells #[.int .i64 am,.slice A n c,.int .u64 f,.int .u64 ce,.int .u64 at_,.int .u64 le] 202)).alloc (.cells #[.slice none 0 0,.slice none 0 0,.int .i64 0,.int .u64 0,.int .u64 0,.int .u64 0,.int .u64 0] 174))
 have cj:aoV w w2:=by rw[pJ];exact((aoV.refl w).alloc _).alloc _
 have h1:w2.heap[w.heap.size]?=some (.cells #[.int .i64 am,.slice A n c,.int .u64 f,.int .u64 ce,.int .u64 at_,.int .u64 le] 202 (0,0)):=by
  rw[pJ,Below.heap_alloc _ _ _ (by simp)];exact bp w _
 have h2:w2.heap[w.heap.size+1]?=some (.cells #[.slice none 0 0,.slice none 0 0,.int .i64 0,.int .u64 0,.int .u64 0,.int .u64 0,.int .u64 0] 174 (0,0)):=by
  rw[pJ];have h:=bp (w.alloc (.cells #[.int .i64 am,.slice A n c,.int .u64 f,.int .u64 ce,.int .u64 at_,.int .u64 le] 202)) (.cells #[.slice none 0 0,.slice none 0 0,.int .i64 0,.int .u64 0,.int .u64 0,.int .u64 0,.int .u64 0] 174)
  rwa[fF] at h
 have fT:=aoU pJ;clear pJ;have il:=hr.up cj;have hl2:=aB h2;go_enter func242,ntmps242
 go_wp2_with fail;rw[<- fT.out];clear fT;have ex:w.heap.size<=w.heap.size+1:=by omega
 generalize ni:w.heap.size+1=gr at *;have Jm:¬w.heap.size=gr:=by omega
 generalize w.heap.size=yb at h1 Jm|-;have hS:∀w1,V.af (λg=>g=gr) w2.drew w1->(w1.cell? ⟨yb,0,none⟩=some (.int .i64 am)/\w1.cell? ⟨yb,1,none⟩=some (.slice A n c)/\w1.cell? ⟨yb,2,none⟩=some (.int .u64 f)/\w1.cell? ⟨yb,3,none⟩=some (.int .u64 ce)/\w1.cell? ⟨yb,4,none⟩=some (.int .u64 at_)/\w1.cell? ⟨yb,5,none⟩=some (.int .u64 le)):=λw1 hK=>by
  have h:=(hK.block yb (aB h1) Jm).trans h1;exact⟨aoW h 0,aoW h 1,aoW h 2,aoW h 3,aoW h 4,aoW h 5⟩
 apply V.aps 15 _ (λg=>g=gr) (λW=>W.heap[gr]?=some (.cells #[.slice none 0 0,.slice none 0 0,.int .i64 0,.int .u64 0,.int .u64 0,.int .u64 0,.int .u64 0] 174 (0,0))) rfl (by kernel_rfl) (by kernel_rfl) (by rintro g rfl;exact hl2) h2 (λw1 w2 h hs=>(hs.block gr (aB h) (.inr rfl)).trans h) hS
 .intro aF aoX;iterate 2 (apply V.aj.ok;intros;go_simp;rfl;rfl;go_frame)
  apply V.aj.cG (λv W1=>W1.ownsRow w2.heap.size 268 2 v n (dR l)) V.ob [] []
  .exact λv W1 W2 h hs=>tX h hs
  .rfl
  .intro vs w4 hK hS hf K ah;have eO:aoV w w4:=lK (CV:=w2.drew) cj.drew ex hK;have hnil:=fC w4 w2.heap.size 268 2;refine uP _ _ _ Iu rfl rfl rfl hnil (hr.up eO) (Im _) (by omega) (by omega) hK.size λv' ai ho' hg' m8=>?_
   rw[dV,gY] at ho';exact ah.out _ _ ho' (VM hnil hg' λg hg=>hg.elim) (Sb hnil ho' m8 λg hg=>hg.elim)
  simp only[au,Nat.reduceAdd];iterate 10 (apply V.aj.ok;intros;go_simp;rfl;rfl;go_frame)
  apply V.aj.wo (λvs W=>∃R rc,vs 2= .slice R n rc/\vs 13= .agg #[.slice none 0 0,.slice R n rc,.int .i64 am,.int .u64 f,.int .u64 ce,.int .u64 at_,.int .u64 le]) (λ_ _=>False) [2] [] [2] (λvs vs' h=>by rw[h 2 (by simp),h 13 (by simp)];exact⟨rfl,rfl⟩)
  .exact λ_ _ _ h _=>h
  .rfl
  .intro vs w4 hK hS hf K ah;obtain⟨hown,-⟩:=hf;have ao5:w4.ownsRow w2.heap.size 268 2 (vs 2) n (dR l):=hown;obtain⟨R,rc,hv⟩:=eL ao5
   (try dsimp only at ah|-)
   rw[hv] at ah|-;go_simp;refine ah.out _ _ ⟨R,rc,?_,?_⟩ (V.af.refl _ _) (λg hg=>hg.elim)
   .rw[V.jQ _ _ (by decide)];exact hv
   .rw[V.eV]
  simp only[au,Nat.reduceAdd];apply V.aj.wo (λvs W=>∃R rc,vs 2= .slice R n rc/\W.heap[gr]?=some (.cells #[.slice none 0 0,.slice R n rc,.int .i64 am,.int .u64 f,.int .u64 ce,.int .u64 at_,.int .u64 le] 174 (0,0))) (λ_ g=>g=gr) [13,15] [15] [2] (λvs vs' h=>by rw[h 2 (by simp)];exact⟨rfl,rfl⟩)
  .rintro vs W1 W2⟨R,rc,hv,hh⟩ hs;exact⟨R,rc,hv,(hs.block gr (aB hh) (.inr rfl)).trans hh⟩
  .rfl
  .intro vs w4 hK hS hf K ah;obtain⟨yT,hblk,-⟩:=hf;obtain⟨R,rc,sk,ky⟩:=yT;have zK:w4.heap[gr]?=some (.cells #[.slice none 0 0,.slice none 0 0,.int .i64 0,.int .u64 0,.int .u64 0,.int .u64 0,.int .u64 0] 174 (0,0)):=hblk;obtain⟨t0,t1,t2,t3,t4,t5,t6⟩:=pw zK;have jd:=ay zK 0;have s1:=ay zK 1;have s2:=ay zK 2;have s3:=ay zK 3;have dP:=ay zK 4;have jy:=ay zK 5;have iY:=ay zK 6
   have h7:=FO w4 gr _ _ _ _ _ _ _ (.slice none 0 0) (.slice R n rc) (.int .i64 am) (.int .u64 f) (.int .u64 ce) (.int .u64 at_) (.int .u64 le) _ zK
   (try dsimp only at ah|-)
   rw[ky] at ah|-;have Nq:=aoU sk;clear sk ky;go_simp;refine ah.out undef _ ⟨R,rc,?_,h7.1⟩ (af.weak h7.2 λy hy=>⟨15,fi.2 rfl,hy⟩) (λy hy=>⟨?_,.inr ⟨15,fi.2 rfl,hy⟩⟩)
   .rw[V.jQ _ _ (by decide)];exact Nq.out
   .have afo:y=gr:=hy;rw[afo];exact aB h7.1
  simp only[au,Nat.reduceAdd];apply V.aj.fin [2,14];intro vs w4 hK hS hf;obtain⟨hown,Nl,-⟩:=hf;refine aoX.out _ _ ?_;clear aoX;obtain⟨R,rc,sk,hh⟩:=Nl;have ao5:w4.ownsRow w2.heap.size 268 2 (vs 2) n (dR l):=hown;rw[sk] at ao5;have eO:aoV w w4:=lK (CV:=w2.drew) cj.drew ex hK;clear hown hS hK;obtain⟨t0,t1,t2,t3,t4,t5,t6⟩:=pw hh;go_wp2_with fail
  refine dm (v:= .agg #[.slice none 0 0,.slice R n rc,.int .i64 am,.int .u64 f,.int .u64 ce,.int .u64 at_,.int .u64 le]) (by simp[results,results242,go_sem,t0,t1,t2,t3,t4,t5,t6]) rfl ?_;exact⟨R,rc,rfl,Rd.own ao5,eO⟩
 .kernel_rfl
def eK(most:Nat)(bs:List UInt8)(ok:Bool):Nat×List UInt8×Bool:=
 if ok=true/\(gS bs).2.2=0/\(gS bs).1<=most then((gS bs).1,bs.drop (gS bs).2.1,true) else(0,bs,false)
theorem BD(most:Nat)(bs:List UInt8)(ok:Bool):(eK most bs ok).1<=most:=by
 unfold eK;split
 .rename_i h;exact h.2.2
 .exact Nat.zero_le _
def yy(g B:Nat)(bs:List UInt8)(ok:Bool)(W:World):Prop:=
 ∃A n c,W.heap[g]?=some (.cells #[.slice A n c,.bool ok] 382 (0,0))/\n<=c/\Rd W B 1 A n (cu bs)/\n<=1099511627776
theorem yy.up{g B:Nat}{bs:List UInt8}{ok:Bool}{W W':World}(h:yy g B bs ok W)(hB:B<=W.heap.size)(hu:aoV W W'):yy g B bs ok W':=by
 obtain⟨A,n,c,h1,h2,h3,h4⟩:=h;exact⟨A,n,c,(fP hu h1),h2,h3.stay hB hu,h4⟩
theorem Rd.FY{w w':World}{B sz n g:Nat}{A:Option Addr}{xs:List Value}(h:Rd w B sz A n xs)(hB:B<=w.heap.size)(hg:B<=g)(hK:V.af (λy=>y=g) w w'):Rd w' B sz A n xs:=by
 refine⟨h.1,λhn=>?_⟩;obtain⟨b,o,rfl,hb,hc⟩:=h.2 hn;exact⟨b,o,rfl,hb,λj u hu=>(mv (hK.block b (cg hb hB) (by show¬b=g;omega))).trans (hc j u hu)⟩
theorem yy.keeps{g g' B:Nat}{bs:List UInt8}{ok:Bool}{W W':World}(h:yy g B bs ok W)(hB:B<=W.heap.size)(hg:B<=g')(hne:g≠g')(hK:V.af (λy=>y=g') W W'):yy g B bs ok W':=by
 obtain⟨A,n,c,h1,h2,h3,h4⟩:=h;exact⟨A,n,c,(hK.block _ (aB h1) hne).trans h1,h2,h3.FY hB hg hK,h4⟩
theorem BE(g B:Nat)(bs:List UInt8)(ok:Bool)(most:Nat)(w:World)(h:yy g B bs ok w)(hB:B<=w.heap.size)(hg:B<=g)(anh:most<18446744073709551616):
 Calls prog 279 #[.pointer (some ⟨g,0,none⟩),.int .u64 most] w λe w'=>e= .returned (.int .u64 ((eK most bs ok).1:Int))/\yy g B (eK most bs ok).2.1 (eK most bs ok).2.2 w'/\V.af (λy=>y=g) w w':=by
 obtain⟨A,n,c,hh,hnc,hrd,hn⟩:=h;have hr:eK most bs ok=(if ok=true/\(gS bs).2.2=0/\(gS bs).1<=most then((gS bs).1,bs.drop (gS bs).2.1,true) else(0,bs,false)):=rfl;have fJ:=aoU hr;have hto:=λh=>EL (l:=bs) h
 have HR:=aoU hto;have hnl:n=bs.length:=hrd.gO;have lz:=aoU hnl;clear hr hto hnl;have t0:=aoW hh 0;have t1:=aoW hh 1;have jd:=ay hh 0;have s1:=ay hh 1;have CG:=λ(kl:IntKind)(l:Int)(h0:0<=l)(h1:l<=n)=>apo w A n c kl l h0 h1
 go_enter func279,ntmps279
 go_wp2_with fail;refine(apy A n c bs w (hrd.mono hB) (by omega)).mono ?_;rintro e w1⟨rfl,rfl⟩;generalize gS bs=T at *;obtain⟨x,k,e⟩:=T
 (try dsimp only at fJ HR|-)
 cases ok
 .have hs:=bM w g 1 (.bool false) _ _ hh;have hK:=aoZ w w g 1 (.bool false) (V.af.refl _ _);have e2:eK most bs false=(0,bs,false):=by rw[fJ.out];rfl
  have zM:=aoU e2;clear e2;go_wp2_with fail;go_ret;rw[zM.out];exact⟨rfl,⟨A,n,c,hs,hnc,hrd.FY hB hg hK,hn⟩,hK⟩
 .by_cases he:e=0
  .subst he;obtain⟨p1,p2,p3,tE⟩:=HR.out rfl;by_cases hx:x<=most
   .have YI:¬(most:Int)<(x:Int):=by omega
    have hkn:k<=n:=by rw[lz.out];exact p3
    have e2:eK most bs true=(x,bs.drop k,true):=by rw[fJ.out,if_pos ⟨rfl,rfl,hx⟩]
    have zM:=aoU e2;clear e2;have ani:(0:Int)<=(k:Int):=by omega
    have hki:(k:Int)<=(n:Int):=by omega
    have anj:(k:Int)<=(c:Int):=by omega
    have NC:=hrd.GN hkn hnc;have hs:(w.setCell ⟨g,0,none⟩ (.slice (kH A c k 1) (n-k) (c-k))).heap[g]?=some (.cells #[.slice (kH A c k 1) (n-k) (c-k),.bool true] 382 (0,0)):=bM w g 0 _ _ _ hh;have hK:=aoZ w w g 0 (.slice (kH A c k 1) (n-k) (c-k)) (V.af.refl _ _);go_wp2_with fail;go_ret;rw[zM.out];exact⟨rfl,⟨kH A c k 1,n-k,c-k,hs,by omega,NC.FY hB hg hK,by omega⟩,hK⟩
   .have YI:(most:Int)<(x:Int):=by omega
    have hs:=bM w g 1 (.bool false) _ _ hh;have hK:=aoZ w w g 1 (.bool false) (V.af.refl _ _);have e2:eK most bs true=(0,bs,false):=by rw[fJ.out,if_neg (λh=>hx h.2.2)]
    have zM:=aoU e2;clear e2;go_wp2_with fail;go_ret;rw[zM.out];exact⟨rfl,⟨A,n,c,hs,hnc,hrd.FY hB hg hK,hn⟩,hK⟩
  .have ank:¬(e:Int)=0:=by omega
   have sQ:((e:Int) !=0)=true:=by simp;omega
   have hs:=bM w g 1 (.bool false) _ _ hh;have hK:=aoZ w w g 1 (.bool false) (V.af.refl _ _);have e2:eK most bs true=(0,bs,false):=by rw[fJ.out,if_neg (λh=>he h.2.1)]
   have zM:=aoU e2;clear e2;go_wp2_with fail;go_ret;rw[zM.out];exact⟨rfl,⟨A,n,c,hs,hnc,hrd.FY hB hg hK,hn⟩,hK⟩
abbrev cE:=List UInt8×Bool
def xo:Nat->cE->List dM×cE
 |0,s=>([],s)
 |k+1,s=>
  let t:=xo k s
  let a:=eK 3 t.2.1 t.2.2
  let b:=eK 1073741824 a.2.1 a.2.2
  (t.1++[((a.1:Int),(b.1:Int))],b.2)
theorem agj{k:Nat}{s:cE}{add:List dM}{st s1 s2:cE}{lv zN:Nat}(h:xo k s=(add,st))(h1:lv=(eK 3 st.1 st.2).1)(h2:s1=(eK 3 st.1 st.2).2)(h3:zN=(eK 1073741824 s1.1 s1.2).1)(h4:s2=(eK 1073741824 s1.1 s1.2).2):
 xo (k+1) s=(add++[((lv:Int),(zN:Int))],s2):=by
 subst h4;subst h3;subst h2;subst h1;simp only[xo,h]
def FZ(x:Nat):Nat:=if 1073741825<x then 1073741825 else x
def minD(x:UInt64):Int:=(FZ x.toNat:Int)
abbrev Jw:=List Int×List dM×Int×Nat×Nat×Nat×Nat
def pi(bs:List UInt8):Option Jw:=
 let u:=oQ bs 40
 let c:=eK 40 (bs.drop u.2.1) true
 let fs:=xo c.1 c.2
 let l:=eK 1073741824 fs.2.1 fs.2.2
 let a:=eK 281474976710656 l.2.1 l.2.2
 let b:=eK 281474976710656 a.2.1 a.2.2
 let d:=eK 281474976710656 b.2.1 b.2.2
 let e:=eK 281474976710656 d.2.1 d.2.2
 if u.2.2=0/\e.2.2=true/\e.2.1= []/\rx (u.1.map minD) fs.1 l.1 a.1 b.1 d.1 e.1=true then some (u.1.map minD,fs.1,(l.1:Int),a.1,b.1,d.1,e.1) else none
theorem q5{w w2:World}{base br:Nat}{e t:TypeId}{sz n:Nat}{v:Value}{xs:List Value}{cs:Array Value}{fz:Nat×Nat}(h:w.ownsRow base e sz v n xs)(hh:w.heap[br]?=some (.cells cs t fz))(hne:e≠t)(hK:V.af (λg=>g=br) w w2):w2.ownsRow base e sz v n xs:=by
 refine⟨h.1,?_⟩;rcases h.2 with h2|⟨g,cap,cur,hv,hb,hg,r⟩
 .exact .inl h2
 .refine .inr ⟨g,cap,cur,hv,hb,(hK.block g (aB hg) (λe0=>?_)).trans hg,r⟩;have e1:g=br:=e0;rw[e1,hh] at hg;injection hg with hg;injection hg with _ h2 _;exact hne h2.symm
theorem K1{P:Program}{ops:Array Oper}{o:Oper}{a:Act}{w:World}{K:Act->World->Prop}{Q:Exit->Act->World->Prop}{E:Prop}(hg:o.guard=none)(h:Oper.wp P o a w K Q):
 if Region.wanted o (yielded ops a.tmps)=true then Oper.wp P o a w K Q else E:=by
 rw[if_pos (by simp[Region.wanted,hg])];exact h
def agk(r:Option Jw)(w:World)(e:Ending)(w':World):Prop:=
 match r with
 |none=>e= .returned (.tuple #[.agg #[.slice none 0 0,.slice none 0 0,.int .i64 0,.int .u64 0,.int .u64 0,.int .u64 0,.int .u64 0],.int .i64 3])/\aoV w w'
 |some x=>∃D b9 bX A an ac,e= .returned (.tuple #[.agg #[.slice D b9 bX,.slice A an ac,.int .i64 x.2.2.1,.int .u64 x.2.2.2.1,.int .u64 x.2.2.2.2.1,.int .u64 x.2.2.2.2.2.1,.int .u64 x.2.2.2.2.2.2],.int .i64 0])/\
  Rd w' w'.heap.size 1 D b9 (lJ x.1)/\b9<=bX/\Rd w' w'.heap.size 2 A an (dR x.2.1)/\an<=ac/\aoV w w'
structure pj(w:World)(g2 ge gr:Nat)(D:Option Addr)(b9 bX:Nat)(ds:List Int)(A:Option Addr)(an ac:Nat)(add:List dM)(am f ce at_ le:Nat)(bs:List UInt8)(ok:Bool)(W:World):Prop where
 o1:w.heap.size<=g2
 o2:g2<ge
 oW:ge<gr
 up:aoV w W
 hg:W.heap[g2]?=some (.cells #[.slice none 0 0,.slice none 0 0,.int .i64 0,.int .u64 0,.int .u64 0,.int .u64 0,.int .u64 0] 174 (0,0))
 hge:W.heap[ge]?=some (.cells #[.slice D b9 bX,.slice A an ac,.int .i64 am,.int .u64 f,.int .u64 ce,.int .u64 at_,.int .u64 le] 174 (0,0))
 mz:W.ownsRow (ge+1) 3 1 (.slice D b9 bX) b9 (lJ ds)
 vI:W.ownsRow (ge+1) 268 2 (.slice A an ac) an (dR add)
 rb:yy gr w.heap.size bs ok W
theorem pj.take{w:World}{g2 ge gr:Nat}{D:Option Addr}{b9 bX:Nat}{ds:List Int}{A:Option Addr}{an ac:Nat}{add:List dM}{am f ce at_ le:Nat}{bs bs':List UInt8}{ok ok':Bool}{W W':World}(h:pj w g2 ge gr D b9 bX ds A an ac add am f ce at_ le bs ok W)(hr:yy gr w.heap.size bs' ok' W')(hK:V.af (λy=>y=gr) W W'):pj w g2 ge gr D b9 bX ds A an ac add am f ce at_ le bs' ok' W':=by
 obtain⟨o1,o2,oW,up,hg,hge,mz,vI,bj,n0,c0,hb,-⟩:=h;exact⟨o1,o2,oW,lK up (by omega) hK,(hK.block _ (aB hg) (by show¬g2=gr;omega)).trans hg,(hK.block _ (aB hge) (by show¬ge=gr;omega)).trans hge,
  q5 mz hb (by decide) hK,q5 vI hb (by decide) hK,hr⟩
theorem pj.pre{w:World}{g2 ge gr:Nat}{D:Option Addr}{b9 bX:Nat}{ds:List Int}{A:Option Addr}{an ac:Nat}{add:List dM}{am f ce at_ le:Nat}{bs:List UInt8}{ok:Bool}{W:World}(h:pj w g2 ge gr D b9 bX ds A an ac add am f ce at_ le bs ok W):w.heap.size<=W.heap.size/\w.heap.size<=gr:=⟨h.up.size,by have:=h.o1;have:=h.o2;have:=h.oW;omega⟩
theorem HI:∀(k:Nat)(l:List UInt8)(a:Nat)(acc:List UInt64),a<=l.length->(rj k l a acc).2.1<=l.length
 |0,l,a,acc,h=>h
 |k+1,l,a,acc,h=>by
  rw[rj];split
  .rename_i h1;have h2:=EL h1;rw[List.length_drop] at h2;exact HI k l _ _ (by omega)
  .exact Nat.zero_le _
theorem agl(l:List UInt8)(most:Int):(oQ l most).2.1<=l.length:=by
 unfold oQ;by_cases h1:(gS l).2.2≠0
 .rw[if_pos h1];exact Nat.zero_le _
 .rw[if_neg h1];by_cases h2:(if most<0 then 0 else most)<((gS l).1:Int)
  .rw[if_pos h2];exact Nat.zero_le _
  .rw[if_neg h2];exact HI _ _ _ _ (EL (Decidable.not_not.1 h1)).2.2.1
theorem pj.drew{w:World}{g2 ge gr:Nat}{D:Option Addr}{b9 bX:Nat}{ds:List Int}{A:Option Addr}{an ac:Nat}{add:List dM}{am f ce at_ le:Nat}{bs:List UInt8}{ok:Bool}{W:World}(h:pj w g2 ge gr D b9 bX ds A an ac add am f ce at_ le bs ok W):pj w g2 ge gr D b9 bX ds A an ac add am f ce at_ le bs ok W.drew:=
 ⟨h.o1,h.o2,h.oW,h.up.drew,h.hg,h.hge,h.mz,h.vI,h.rb⟩
theorem agm{w:World}{base:Nat}{e t:TypeId}{sz n:Nat}{v:Value}{xs:List Value}{br:Nat}{cs:Array Value}{fz:Nat×Nat}(h:w.ownsRow base e sz v n xs)(hh:w.heap[br]?=some (.cells cs t fz))(hne:e≠t):some br≠v.ownBlock:=by
 intro e0;rcases h.2 with⟨rfl,_⟩|⟨g,cap,cur,rfl,hb,hg,r⟩
 .simp[Value.ownBlock] at e0
 .have e1:br=g:=by simpa[Value.ownBlock] using e0
  rw[<- e1,hh] at hg;injection hg with hg;injection hg with _ h2 _;exact hne h2.symm
theorem pj.agn{w:World}{g2 ge gr:Nat}{D:Option Addr}{b9 bX:Nat}{ds:List Int}{A:Option Addr}{an ac:Nat}{add:List dM}{am f ce at_ le:Nat}{bs:List UInt8}{ok:Bool}{W W':World}(h:pj w g2 ge gr D b9 bX ds A an ac add am f ce at_ le bs ok W)(hu:aoV W W'):pj w g2 ge gr D b9 bX ds A an ac add am f ce at_ le bs ok W':=
 ⟨h.o1,h.o2,h.oW,h.up.trans hu,(fP hu h.hg),(fP hu h.hge),el h.mz hu,el h.vI hu,h.rb.up h.up.size hu⟩
theorem pj.set{w:World}{g2 ge gr:Nat}{D:Option Addr}{b9 bX:Nat}{ds:List Int}{A:Option Addr}{an ac:Nat}{add:List dM}{am f ce at_ le:Nat}{bs:List UInt8}{ok:Bool}{W:World}(h:pj w g2 ge gr D b9 bX ds A an ac add am f ce at_ le bs ok W)(j:Nat)(v:Value)(HW f' HK at' le':Nat)(he:(#[.slice D b9 bX,.slice A an ac,.int .i64 am,.int .u64 f,.int .u64 ce,.int .u64 at_,.int .u64 le]:Array Value).setIfInBounds j v= #[.slice D b9 bX,.slice A an ac,.int .i64 HW,.int .u64 f',.int .u64 HK,.int .u64 at',.int .u64 le']):
 pj w g2 ge gr D b9 bX ds A an ac add HW f' HK at' le' bs ok (W.setCell ⟨ge,j,none⟩ v):=by
 obtain⟨o1,o2,oW,up,hg,hge,mz,vI,hrb⟩:=h;have hK:=aoZ W W ge j v (V.af.refl _ _);refine⟨o1,o2,oW,lK up (by omega) hK,(hK.block _ (aB hg) (by show¬g2=ge;omega)).trans hg,?_,nh mz (by omega) hK,nh vI (by omega) hK,hrb.keeps up.size (by omega) (by omega) hK⟩;rw[bM W ge j v _ _ hge,he]
theorem pj.push{w:World}{g2 ge gr:Nat}{D:Option Addr}{b9 bX:Nat}{ds:List Int}{A:Option Addr}{an ac:Nat}{add:List dM}{am f ce at_ le:Nat}{bs:List UInt8}{ok:Bool}{W:World}(h:pj w g2 ge gr D b9 bX ds A an ac add am f ce at_ le bs ok W)(o:Obj){W2:World}{iA:Option Addr}{n2 c2:Nat}{A1:List dM}(hown:W2.ownsRow (ge+1) 268 2 (.slice iA n2 c2) n2 (dR A1))(ni:(W.alloc o).grownBy W2 (Value.slice A an ac).ownBlock):
 W2.cell? ⟨ge,1,none⟩=some (.slice A an ac)/\W2.frozen? ⟨ge,1,none⟩=false/\pj w g2 ge gr D b9 bX ds iA n2 c2 A1 am f ce at_ le bs ok (W2.setCell ⟨ge,1,none⟩ (.slice iA n2 c2)):=by
 have hu:aoV W (W.alloc o):=(aoV.refl W).alloc o;obtain⟨o1,o2,oW,up,hg,hge,mz,vI,hrb⟩:=h;have hB:=up.size;have hg1:=(fP hu hg);have vJ:=(fP hu hge);have xp:=el mz hu;have SI:=el vI hu;obtain⟨bj,n0,c0,b1,b2,b3,b4⟩:=hrb.up hB hu;have hlo:=SI.lt;have F8:=(ni.block g2 (aB hg1) (λe0=>by have:=(hlo g2 e0.symm).1;omega)).trans hg1;have BF:=(ni.block ge (aB vJ) (λe0=>by have:=(hlo ge e0.symm).1;omega)).trans vJ
 have ao0:=(ni.block gr (aB b1) (agm SI b1 (by decide))).trans b1;have ND:=AN SI xp (by decide) ni;have il:Rd W2 w.heap.size 1 bj n0 (cu bs):=b3.grown ni (bQ hB hu.size) (λk0 e0=>by have:=(hlo k0 e0).1;omega);have jI:aoV w W2:=(up.trans hu).grown ni (λk0 e0=>by have:=(hlo k0 e0).1;omega);have hK:=aoZ W2 W2 ge 1 (.slice iA n2 c2) (V.af.refl _ _)
 refine⟨aoW BF 1,ay BF 1,o1,o2,oW,lK jI (by omega) hK,(hK.block _ (aB F8) (by show¬g2=ge;omega)).trans F8,bM W2 ge 1 _ _ _ BF,
  nh ND (by omega) hK,nh hown (by omega) hK,bj,n0,c0,(hK.block _ (aB ao0) (by show¬gr=ge;omega)).trans ao0,b2,il.FY jI.size (by omega) hK,b4⟩
theorem ago{bs:List UInt8}{q:List UInt64}{mU m am f ce at_ le:Nat}{jd s3 dP jy iY gK st:cE}{add:List dM}(hu:oQ bs 40=(q,mU,0))(h1:m=(eK 40 (bs.drop mU) true).1)(h2:jd=(eK 40 (bs.drop mU) true).2)(h3:xo m jd=(add,st))(h4:am=(eK 1073741824 st.1 st.2).1)(h5:s3=(eK 1073741824 st.1 st.2).2)(h6:f=(eK 281474976710656 s3.1 s3.2).1)(h7:dP=(eK 281474976710656 s3.1 s3.2).2)(h8:ce=(eK 281474976710656 dP.1 dP.2).1)(h9:jy=(eK 281474976710656 dP.1 dP.2).2)(h10:at_=(eK 281474976710656 jy.1 jy.2).1)(h11:iY=(eK 281474976710656 jy.1 jy.2).2)(h12:le=(eK 281474976710656 iY.1 iY.2).1)(yT:gK=(eK 281474976710656 iY.1 iY.2).2):
 pi bs=if gK.2=true/\gK.1= []/\rx (q.map minD) add am f ce at_ le=true then some (q.map minD,add,(am:Int),f,ce,at_,le) else none:=by
 unfold pi;simp only[hu,true_and];rw[<- h1,<- h2,h3];simp only;rw[<- h4,<- h5,<- h6,<- h7,<- h8,<- h9,<- h10,<- h11,<- h12,<- yT]
def agp(w:World)(g2 ge:Nat)(Q:Option Addr)(cf ip:Nat)(q:List UInt64)(k:Nat)(wr:World):Prop:=
 ∃(D:Option Addr)(bX:Nat),aoV w wr/\wr.heap[g2]?=some (.cells #[.slice none 0 0,.slice none 0 0,.int .i64 0,.int .u64 0,.int .u64 0,.int .u64 0,.int .u64 0] 174 (0,0))/\wr.heap[ge]?=some (.cells #[.slice D k bX,.slice none 0 0,.int .i64 0,.int .u64 0,.int .u64 0,.int .u64 0,.int .u64 0] 174 (0,0))/\
  wr.ownsRow (ge+1) 3 1 (.slice D k bX) k (lJ ((q.take k).map minD))/\sb wr (ge+1) Q cf ip q
theorem agq(bj:Option Addr)(n c:Nat)(bs:List UInt8)(w:World)(hr:Rd w w.heap.size 1 bj n (cu bs))(hn:n<=549755813888)(hnc:n<=c):
 Calls prog 224 #[.slice bj n c] w (agk (pi bs) w):=by
 obtain⟨w2,pJ⟩:=bB ((w.alloc (.cells #[.slice none 0 0,.slice none 0 0,.int .i64 0,.int .u64 0,.int .u64 0,.int .u64 0,.int .u64 0] 174)).alloc (.cells #[.slice none 0 0,.slice none 0 0,.int .i64 0,.int .u64 0,.int .u64 0,.int .u64 0,.int .u64 0] 174))
 have jI:aoV w w2:=by rw[pJ];exact((aoV.refl w).alloc _).alloc _
 have ex:w2.heap[w.heap.size]?=some (.cells #[.slice none 0 0,.slice none 0 0,.int .i64 0,.int .u64 0,.int .u64 0,.int .u64 0,.int .u64 0] 174 (0,0)):=by
  rw[pJ,Below.heap_alloc _ _ _ (by simp)];exact bp w _
 have BF:w2.heap[w.heap.size+1]?=some (.cells #[.slice none 0 0,.slice none 0 0,.int .i64 0,.int .u64 0,.int .u64 0,.int .u64 0,.int .u64 0] 174 (0,0)):=by
  rw[pJ];have h:=bp (w.alloc (.cells #[.slice none 0 0,.slice none 0 0,.int .i64 0,.int .u64 0,.int .u64 0,.int .u64 0,.int .u64 0] 174)) (.cells #[.slice none 0 0,.slice none 0 0,.int .i64 0,.int .u64 0,.int .u64 0,.int .u64 0,.int .u64 0] 174)
  rwa[fF] at h
 have fT:=aoU pJ;clear pJ;have hread:pi bs=pi bs:=rfl;obtain⟨q,mU,qe,hu⟩:∃q a e,oQ bs 40=(q,a,e):=⟨_,_,_,rfl⟩
 have kG:=aoU hu;clear hu hread;go_enter func224,ntmps224
 go_wp2_with fail;rw[<- fT.out];clear fT;have tG:w.heap.size<=w.heap.size:=aZ _;have F0:w.heap.size<w.heap.size+1:=by omega
 generalize Mw:w.heap.size+1=ge at BF F0|-;generalize agr:w.heap.size=g2 at ex|-;refine(acJ bj n c bs 40 w2 (hr.up jI) (by omega) hnc (by omega) (by omega)).mono ?_;rintro e w3⟨Q,cf,ip,rfl,Jy,bV⟩;rw[kG.out] at Jy|-
 (try dsimp only at Jy|-)
 have QP:cf<=549755813888:=by
  have h1:=Jy.rd.GM;have h2:=aaG bs 40;rw[kG.out] at h2;have h3:=hr.gO
  (try dsimp only at h2)
  omega
 have kM:=(fP bV ex);have SJ:=(fP bV BF);have sB:=jI.trans bV;have eG:ge+1<=w2.heap.size:=aB BF;clear ex BF jI bV;by_cases Cj:qe=0
 .subst Cj;have ags:=hr.below (Below.mono sB (aZ _));go_wp2_with fail;go_loopw[23] (λi wr=>∃k:Nat,i= .int .i64 k/\k<=cf/\agp w g2 ge Q cf ip q k wr) (λi _=>cf-(intOf i).toNat)
  case atStart=>exact⟨0,rfl,by omega,none,0,sB,kM,SJ,fC _ _ _ _,jP Jy eG⟩
  case round=>
   obtain⟨k,rfl,hk,D,bX,cj,hg,hge,mz,hq⟩:=hrel;clear kM SJ sB Jy;by_cases hlt:k<cf
   .obtain⟨b,o,rfl,iW,pO⟩:=hq.rd.num hlt;have bS:k<q.length:=by have:=hq.rd.GM;omega
    have htk:(q.take (k+1)).map minD=(q.take k).map minD++[(FZ (q.getD k 0).toNat:Int)]:=by
     rw[lU bS,kU];simp[minD,List.getD,bS]
    generalize (q.getD k 0).toNat=x at pO htk;have t0:=aoW hge 0;by_cases hx:1073741825<x
    .have td:FZ x=1073741825:=if_pos hx;rw[td,show((1073741825:Nat):Int)=1073741825 from rfl] at htk;have fk:=aoU htk;have hx1:(1073741825:Int)<(x:Int):=by omega
     have hx2:¬(x:Int)<1073741825:=by omega
     clear htk td;have aX:aoV wr (wr.alloc (.cells #[.int .i64 (1073741825)] 3)):=(aoV.refl wr).alloc _;have xp:=el mz aX;have hq1:=el hq aX;have hg1:=(fP aX hg);have vJ:=(fP aX hge);have jH:=cj.trans aX;have hlo:=xp.lt;go_wp2_with (
      at_builtin;refine iF _ Qn (news:=lJ [1073741825]) xp (Rd.box _ _ _) (by intro u hu;simp[lJ] at hu;subst hu;rfl) (by omega) (by omega) (by have:=aB vJ;omega) rfl rfl rfl rfl ?_;intro v5 ai dN eh om;obtain⟨mM,xq,rfl⟩:=eL dN
      have fW:=(eh.block g2 (aB hg1) (λe0=>by have:=(hlo g2 e0.symm).1;omega)).trans hg1;have zO:=(eh.block ge (aB vJ) (λe0=>by have:=(hlo ge e0.symm).1;omega)).trans vJ;have rY:aoV w ai:=jH.grown eh (λk0 e0=>by have:=(hlo k0 e0).1;omega);have Jz:sb ai (ge+1) (some ⟨b,o,none⟩) cf ip q:=AN xp hq1 (by decide) eh;have r1:=aoW zO 0;have r2:=ay zO 0
      have JA:(ai.setCell ⟨ge,0,none⟩ (.slice mM (k+1) xq)).heap[ge]?=some (.cells #[.slice mM (k+1) xq,.slice none 0 0,.int .i64 0,.int .u64 0,.int .u64 0,.int .u64 0,.int .u64 0] 174 (0,0)):=bM ai _ 0 _ _ _ zO;have oo:=aoZ ai ai ge 0 (.slice mM (k+1) xq) (V.af.refl _ _);have BG:=(oo.block _ (aB fW) (by omega)).trans fW;have JB:=nh dN (by omega) oo;have JC:=nh Jz (by omega) oo;have vo:=lK rY (by omega) oo;have SK:=aoU JA;have SL:=aoU BG;have SM:=aoU JB;have SN:=aoU JC
      have SO:=aoU vo;clear vo JA BG JB JC oo fW zO rY Jz dN eh om aX xp hq1 hg1 vJ jH hlo)
     clear t0 pO r1 r2;generalize ai.setCell ⟨ge,0,none⟩ (.slice mM (k+1) xq)=w7 at *;go_roundw
     case rel=>
      refine⟨k+1,by first|omega|go_num,by omega,mM,xq,SO.out,SL.out,SK.out,?_,SN.out⟩;rw[fk.out];have e:lJ ((q.take k).map minD++[1073741825])=lJ ((q.take k).map minD)++lJ [1073741825]:=by simp[lJ]
      rw[e];exact SM.out
     case measure=>simp[intOf];omega
    .have td:FZ x=x:=if_neg hx;rw[td] at htk;have fk:=aoU htk;have hx1:¬(1073741825:Int)<(x:Int):=by omega
     have anl:IntKind.i64.wrap (x:Int)=(x:Int):=IntWalk.i64_in _ (by omega);clear htk td;have aX:aoV wr (wr.alloc (.cells #[.int .i64 ((x:Int))] 3)):=(aoV.refl wr).alloc _;have xp:=el mz aX;have hq1:=el hq aX;have hg1:=(fP aX hg);have vJ:=(fP aX hge);have jH:=cj.trans aX;have hlo:=xp.lt;go_wp2_with (
      at_builtin;refine iF _ Qn (news:=lJ [(x:Int)]) xp (Rd.box _ _ _) (by intro u hu;simp[lJ] at hu;subst hu;rfl) (by omega) (by omega) (by have:=aB vJ;omega) rfl rfl rfl rfl ?_;intro v5 ai dN eh om;obtain⟨mM,xq,rfl⟩:=eL dN
      have fW:=(eh.block g2 (aB hg1) (λe0=>by have:=(hlo g2 e0.symm).1;omega)).trans hg1;have zO:=(eh.block ge (aB vJ) (λe0=>by have:=(hlo ge e0.symm).1;omega)).trans vJ;have rY:aoV w ai:=jH.grown eh (λk0 e0=>by have:=(hlo k0 e0).1;omega);have Jz:sb ai (ge+1) (some ⟨b,o,none⟩) cf ip q:=AN xp hq1 (by decide) eh;have r1:=aoW zO 0;have r2:=ay zO 0
      have JA:(ai.setCell ⟨ge,0,none⟩ (.slice mM (k+1) xq)).heap[ge]?=some (.cells #[.slice mM (k+1) xq,.slice none 0 0,.int .i64 0,.int .u64 0,.int .u64 0,.int .u64 0,.int .u64 0] 174 (0,0)):=bM ai _ 0 _ _ _ zO;have oo:=aoZ ai ai ge 0 (.slice mM (k+1) xq) (V.af.refl _ _);have BG:=(oo.block _ (aB fW) (by omega)).trans fW;have JB:=nh dN (by omega) oo;have JC:=nh Jz (by omega) oo;have vo:=lK rY (by omega) oo;have SK:=aoU JA;have SL:=aoU BG;have SM:=aoU JB;have SN:=aoU JC
      have SO:=aoU vo;clear vo JA BG JB JC oo fW zO rY Jz dN eh om aX xp hq1 hg1 vJ jH hlo)
     clear t0 pO r1 r2;generalize ai.setCell ⟨ge,0,none⟩ (.slice mM (k+1) xq)=w7 at *;go_roundw
     case rel=>
      refine⟨k+1,by first|omega|go_num,by omega,mM,xq,SO.out,SL.out,SK.out,?_,SN.out⟩;rw[fk.out];have e:lJ ((q.take k).map minD++[(x:Int)])=lJ ((q.take k).map minD)++lJ [(x:Int)]:=by simp[lJ]
      rw[e];exact SM.out
     case measure=>simp[intOf];omega
   .have Rv:k=cf:=by omega
    have yM:cf=q.length:=hq.rd.GM;have ND:wr.ownsRow (ge+1) 3 1 (.slice D k bX) k (lJ (q.map minD)):=by
     have h:=mz
     rwa[lV (by omega)] at h
    have Ci:mU<=n:=by
     have h:=agl bs 40;rw[kG.out] at h;have:=hr.gO
     (try dsimp only at h)
     omega
    have HB:Rd wr w.heap.size 1 bj n (cu bs):=hr.below cj;have NC:=HB.GN Ci hnc;have CG:=λ(W:World)(kl:IntKind)(l:Int)(h0:0<=l)(h1:l<=n)=>apo W bj n c kl l h0 h1
    have anm:(mU:Int)<=(n:Int):=by omega
    have aX:aoV wr (wr.alloc (.cells #[.slice (kH bj c mU 1) (n-mU) (c-mU),.bool true] 382)):=(aoV.refl wr).alloc _;have hI:pj w g2 ge wr.heap.size D k bX (q.map minD) none 0 0 [] 0 0 0 0 0 (bs.drop mU) true (wr.alloc (.cells #[.slice (kH bj c mU 1) (n-mU) (c-mU),.bool true] 382)):=
     ⟨by omega,by omega,(aB hge),cj.trans aX,(fP aX hg),(fP aX hge),el ND aX,fC _ _ _ _,
      kH bj c mU 1,n-mU,c-mU,bp _ _,by omega,NC.stay cj.size aX,by omega⟩
    clear ND mz hq hg hge HB NC cj aX yM ags eG Rv tG Mw F0 agr;go_wp2_with fail;generalize wr.alloc (.cells #[.slice (kH bj c mU 1) (n-mU) (c-mU),.bool true] 382)=ai at *;generalize wr.heap.size=gr at hI|-;have hB:=hI.pre;refine(BE gr w.heap.size (bs.drop mU) true 40 ai hI.rb hB.1 hB.2 (by omega)).mono ?_;rintro e cH⟨rfl,c6,gU⟩;have SP:=hI.take c6 gU;have SQ:=BD 40 (bs.drop mU) true;obtain⟨m,hm⟩:=bB ((eK 40 (bs.drop mU) true).1)
    obtain⟨jd,hs0⟩:=bB ((eK 40 (bs.drop mU) true).2)
    rw[<- hm] at SQ|-;rw[<- hs0] at SP;have eT:=aoU hm;have agt:=aoU hs0;clear hm hs0 hI c6 gU CG;go_wp2_with fail;go_loopw[43] (λi wr=>∃(j:Nat)(A:Option Addr)(an ac:Nat)(add:List dM)(st:cE),i= .int .u64 j/\j<=m/\an=j/\pj w g2 ge gr D k bX (q.map minD) A an ac add 0 0 0 0 0 st.1 st.2 wr/\Hid (xo j jd=(add,st))) (λi _=>m-(intOf i).toNat)
    case atStart=>exact⟨0,none,0,0,[],jd,rfl,by omega,rfl,SP,rfl⟩
    case round=>
     obtain⟨j,A,an,ac,add,st,rfl,hj,kE,hI,hrf⟩:=hrel;subst kE;clear SP;by_cases iy:an<m
     .have hB:=hI.pre;go_wp2_with fail;refine(BE gr w.heap.size st.1 st.2 3 wr hI.rb hB.1 hB.2 (by omega)).mono ?_;rintro e w7⟨rfl,s7,oo⟩;have SR:=hI.take s7 oo;have zQ:=BD 3 st.1 st.2;obtain⟨lv,hlv⟩:=bB ((eK 3 st.1 st.2).1)
      obtain⟨s1,hs1⟩:=bB ((eK 3 st.1 st.2).2)
      rw[<- hlv] at zQ|-;rw[<- hs1] at SR;have agu:=aoU hlv;have vD:=aoU hs1;have aqe:IntKind.i64.wrap (lv:Int)=(lv:Int):=IntWalk.i64_in _ (by omega);clear hlv hs1 hI s7 oo;go_wp2_with fail;have hId:=SR.drew;have SS:=hId.pre;have q0:=aoW hId.hge 1;have NE:=BE gr w.heap.size s1.1 s1.2 1073741824 w7.drew hId.rb SS.1 SS.2 (by omega);have agv:=BD 1073741824 s1.1 s1.2;obtain⟨zN,ST⟩:=bB ((eK 1073741824 s1.1 s1.2).1)
      obtain⟨s2,hs2⟩:=bB ((eK 1073741824 s1.1 s1.2).2)
      rw[<- ST] at NE agv;rw[<- hs2] at NE;have agw:=aoU ST;have jo:=aoU hs2;have su:IntKind.i64.wrap (zN:Int)=(zN:Int):=IntWalk.i64_in _ (by omega);have zR:=aoU hId;have Hv:=aoU NE;clear ST hs2 SR hId NE;have mixed:prog.follows .mixedOrders=true:=by kernel_rfl
      go_region_law_o (first
       |(
        refine K1 rfl ?_;go_simp;refine Hv.out.mono ?_;rintro e dY⟨rfl,HP,pP⟩;have vK:=zR.out.take HP pP;have q1:=aoW vK.hge 1;have cP:=λo=>aoW ((((aoV.refl dY).alloc o).block _ (aB vK.hge)).trans vK.hge) 1)
       |(
        refine K1 rfl ?_;refine uP _ _ _ Iu rfl (v:= .slice A an ac) (by simp[Act.eval,Act.put]) (A:=some ⟨dY.heap.size,0,none⟩) (c:=1) (m:=1) (by simp[Act.eval,Act.put]) (lu vK.vI _) (Rd.made dY #[.int .i64 lv,.int .i64 zN] 268 rfl) (Im [((lv:Int),(zN:Int))]) (by omega) (by omega) (by have:=aB vK.hge;simp;omega) ?_;intro v5 ai dN eh om;obtain⟨kC,SU,rfl⟩:=eL dN;have jw:ai.ownsRow (ge+1) 268 2 (.slice kC (an+1) SU) (an+1) (dR (add++[((lv:Int),(zN:Int))])):=by rw[Qy];exact dN
        obtain⟨r1,r2,D3⟩:=vK.push _ jw eh;have agx:=aoU D3;clear D3 dN jw eh om))
      all_goals
       clear q0 q1 cP r1 r2 Hv zR vK HP pP SS hB;generalize ai.setCell ⟨ge,1,none⟩ (.slice kC (an+1) SU)=ag at *;go_wp2_with fail;go_roundw
       case rel=>
        exact⟨an+1,kC,an+1,SU,add++[((lv:Int),(zN:Int))],s2,by first|omega|go_num,by omega,rfl,agx.out,agj hrf.out agu.out vD.out agw.out jo.out⟩
       case measure=>simp[intOf];omega
     .have kE:an=m:=by omega
      subst kE;have vK:=hI;have Bf:=aoU SQ;clear hI hj iy SQ;go_wp2_with fail;have pk:=vK.pre;refine(BE gr w.heap.size st.1 st.2 1073741824 wr vK.rb pk.1 pk.2 (by omega)).mono ?_;rintro e wa⟨rfl,tM,tN⟩;have JD:=vK.take tM tN;have agy:=BD 1073741824 st.1 st.2;obtain⟨am,po⟩:∃x,x=(eK 1073741824 st.1 st.2).1:=⟨_,rfl⟩
      obtain⟨s3,pp⟩:∃x,x=(eK 1073741824 st.1 st.2).2:=⟨_,rfl⟩
      rw[<- po] at agy|-;rw[<- pp] at JD;have agz:=aoU po;have agA:=aoU pp;clear po pp vK tM tN pk;have ano:IntKind.i64.wrap (am:Int)=(am:Int):=IntWalk.i64_in _ (by omega);have cP:=aoW JD.hge 2;have f2:=ay JD.hge 2;have NF:=JD.set 2 (.int .i64 am) am 0 0 0 0 rfl;clear JD;go_wp2_with fail;generalize wa.setCell ⟨ge,2,none⟩ (.int .i64 am)=wb at *;clear cP f2;have pk:=NF.pre;refine(BE gr w.heap.size s3.1 s3.2 281474976710656 wb NF.rb pk.1 pk.2 (by omega)).mono ?_;rintro e wc⟨rfl,tM,tN⟩;have JE:=NF.take tM tN
      have agB:=BD 281474976710656 s3.1 s3.2;obtain⟨f,po⟩:∃x,x=(eK 281474976710656 s3.1 s3.2).1:=⟨_,rfl⟩
      obtain⟨dP,pp⟩:∃x,x=(eK 281474976710656 s3.1 s3.2).2:=⟨_,rfl⟩
      rw[<- po] at agB|-;rw[<- pp] at JE;have agC:=aoU po;have agD:=aoU pp;clear po pp NF tM tN pk;go_wp2_with fail;have pk:=JE.pre;refine(BE gr w.heap.size dP.1 dP.2 281474976710656 wc JE.rb pk.1 pk.2 (by omega)).mono ?_;rintro e wd⟨rfl,tM,tN⟩;have hId:=JE.take tM tN;have agE:=BD 281474976710656 dP.1 dP.2;obtain⟨ce,po⟩:∃x,x=(eK 281474976710656 dP.1 dP.2).1:=⟨_,rfl⟩
      obtain⟨jy,pp⟩:∃x,x=(eK 281474976710656 dP.1 dP.2).2:=⟨_,rfl⟩
      rw[<- po] at agE|-;rw[<- pp] at hId;have agF:=aoU po;have agG:=aoU pp;clear po pp JE tM tN pk;have dQ:=aoW hId.hge 3;have f3:=ay hId.hge 3;have eX:=aoW hId.hge 4;have f4:=ay hId.hge 4;have NG:=(hId.set 3 (.int .u64 f) am f 0 0 0 rfl).set 4 (.int .u64 ce) am f ce 0 0 rfl;clear hId;go_wp2_with fail;generalize (wd.setCell ⟨ge,3,none⟩ (.int .u64 f)).setCell ⟨ge,4,none⟩ (.int .u64 ce)=xV at *;clear dQ f3 eX f4;have pk:=NG.pre;refine(BE gr w.heap.size jy.1 jy.2 281474976710656 xV NG.rb pk.1 pk.2 (by omega)).mono ?_
      rintro e wf⟨rfl,tM,tN⟩;have JF:=NG.take tM tN;have agH:=BD 281474976710656 jy.1 jy.2;obtain⟨at_,po⟩:∃x,x=(eK 281474976710656 jy.1 jy.2).1:=⟨_,rfl⟩
      obtain⟨iY,pp⟩:∃x,x=(eK 281474976710656 jy.1 jy.2).2:=⟨_,rfl⟩
      rw[<- po] at agH|-;rw[<- pp] at JF;have agI:=aoU po;have agJ:=aoU pp;clear po pp NG tM tN pk;go_wp2_with fail;have pk:=JF.pre;refine(BE gr w.heap.size iY.1 iY.2 281474976710656 wf JF.rb pk.1 pk.2 (by omega)).mono ?_;rintro e wg⟨rfl,tM,tN⟩;have DG:=JF.take tM tN;have agK:=BD 281474976710656 iY.1 iY.2;obtain⟨le,po⟩:∃x,x=(eK 281474976710656 iY.1 iY.2).1:=⟨_,rfl⟩
      obtain⟨gK,pp⟩:∃x,x=(eK 281474976710656 iY.1 iY.2).2:=⟨_,rfl⟩
      rw[<- po] at agK|-;rw[<- pp] at DG;have agL:=aoU po;have agM:=aoU pp;clear po pp JF tM tN pk;have dQ:=aoW DG.hge 5;have f3:=ay DG.hge 5;have eX:=aoW DG.hge 6;have f4:=ay DG.hge 6;have uE:=(DG.set 5 (.int .u64 at_) am f ce at_ 0 rfl).set 6 (.int .u64 le) am f ce at_ le rfl;clear DG;obtain⟨agN,SV⟩:∃x,x=(wg.setCell ⟨ge,5,none⟩ (.int .u64 at_)).setCell ⟨ge,6,none⟩ (.int .u64 le):=⟨_,rfl⟩
      rw[<- SV] at uE;have anp:=SV.symm;clear SV;have xr:=ago kG.out eT.out agt.out hrf.out agz.out agA.out agC.out agD.out agF.out agG.out agI.out agJ.out agL.out agM.out;have zS:=aoU xr;clear xr;obtain⟨anq,NH⟩:=gK
      (try dsimp only at uE zS)
      have qc:=uE;obtain⟨anr,n7,pz,tO,HA,A2,-⟩:=qc.rb;have SW:=aoW tO 0;have p1:=aoW tO 1;have Fi:=A2.gO;have r4:=aoU Fi;have eD:=uE.hg;have jb:=uE.up;have F9:=uE.o1;clear Fi qc tO A2;cases NH
      .have nL:Hid (pi bs=none):=by
        have h:=zS.out;rw[if_neg (by simp)] at h;exact h
       clear zS uE;obtain⟨t0,t1,t2,t3,t4,t5,t6⟩:=pw eD;have jd:=ay eD 0;have s1:=ay eD 1;have s2:=ay eD 2;have s3:=ay eD 3;have dP:=ay eD 4;have jy:=ay eD 5;have iY:=ay eD 6;have h7:=FO _ g2 _ _ _ _ _ _ _ (.slice none 0 0) (.slice none 0 0) (.int .i64 0) (.int .u64 0) (.int .u64 0) (.int .u64 0) (.int .u64 0) _ eD;have nU:=lK jb F9 h7.2;have zT:=aoU h7.1;have lP:=aoU nU
       clear h7 nU jb eD;go_wp2_with fail;obtain⟨ny,u1,u2,u3,u4,uF,uG⟩:=pw zT.out;refine dm (v:= .tuple #[.agg #[.slice none 0 0,.slice none 0 0,.int .i64 0,.int .u64 0,.int .u64 0,.int .u64 0,.int .u64 0],.int .i64 3]) (by simp[results,results224,go_sem,ny,u1,u2,u3,u4,uF,uG]) rfl ?_;rw[nL.out];exact⟨rfl,lP.out⟩
      .by_cases Bw:n7=0
       .subst Bw;clear eD jb;obtain⟨t0,t1,t2,t3,t4,t5,t6⟩:=pw uE.hge;have JG:=Rd.own uE.mz;have JH:=Rd.own uE.vI;have hkb:k<=9223372036854775807:=by omega
        have hab:an<=9223372036854775807:=by have:=Bf.out;omega
        obtain⟨mb,hmb⟩:∃x,x=rx (q.map minD) add am f ce at_ le:=⟨_,rfl⟩
        have SX:=aoU hmb;clear hmb;have D1:=aoU JG;have z1:=aoU JH;have HD:=aoU uE;clear JG JH uE;go_wp2_with fail;refine(XP D k bX (q.map minD) A an ac add am f ce at_ le agN D1.out hkb z1.out hab).mono ?_;rintro e wi⟨rfl,r6⟩;rw[<- SX.out];have yz:=HD.out.agn r6;clear t0 t1 t2 t3 t4 t5 t6 D1 z1 HD r6 SW p1;have eD:=yz.hg;have jb:=yz.up;cases mb
        .have nL:Hid (pi bs=none):=by
          have h:=zS.out;rw[if_neg (by rw[<- SX.out];simp)] at h;exact h
         clear zS yz;obtain⟨t0,t1,t2,t3,t4,t5,t6⟩:=pw eD;have jd:=ay eD 0;have s1:=ay eD 1;have s2:=ay eD 2;have s3:=ay eD 3;have dP:=ay eD 4;have jy:=ay eD 5;have iY:=ay eD 6;have h7:=FO _ g2 _ _ _ _ _ _ _ (.slice none 0 0) (.slice none 0 0) (.int .i64 0) (.int .u64 0) (.int .u64 0) (.int .u64 0) (.int .u64 0) _ eD;have nU:=lK jb F9 h7.2;have zT:=aoU h7.1;have lP:=aoU nU
         clear h7 nU jb eD;go_wp2_with fail;obtain⟨ny,u1,u2,u3,u4,uF,uG⟩:=pw zT.out;refine dm (v:= .tuple #[.agg #[.slice none 0 0,.slice none 0 0,.int .i64 0,.int .u64 0,.int .u64 0,.int .u64 0,.int .u64 0],.int .i64 3]) (by simp[results,results224,go_sem,ny,u1,u2,u3,u4,uF,uG]) rfl ?_;rw[nL.out];exact⟨rfl,lP.out⟩
        .have JI:Hid (pi bs=some (q.map minD,add,(am:Int),f,ce,at_,le)):=by
          have h:=zS.out;rw[if_pos ⟨by first|rfl|trivial,List.eq_nil_of_length_eq_zero r4.out.symm,SX.out.symm⟩] at h;exact h
         obtain⟨t0,t1,t2,t3,t4,t5,t6⟩:=pw yz.hge;obtain⟨pd,r1,r2,r3,iK,ki,iV⟩:=pw eD;have jd:=ay eD 0;have s1:=ay eD 1;have s2:=ay eD 2;have s3:=ay eD 3;have dP:=ay eD 4;have jy:=ay eD 5;have iY:=ay eD 6
         have h7:=FO wi g2 _ _ _ _ _ _ _ (.slice D k bX) (.slice A an ac) (.int .i64 am) (.int .u64 f) (.int .u64 ce) (.int .u64 at_) (.int .u64 le) _ eD;have s6:g2<ge+1:=by have:=yz.o2;omega
         have JG:=Rd.own (nh yz.mz s6 h7.2);have JH:=Rd.own (nh yz.vI s6 h7.2);have hnd:=sH yz.mz;have hna:=sH yz.vI;have nU:=lK jb F9 h7.2;have zT:=aoU h7.1;have lP:=aoU nU;have agO:=aoU JG;have agP:=aoU JH;clear h7 nU jb eD JG JH yz zS;go_wp2_with fail;obtain⟨ny,u1,u2,u3,u4,uF,uG⟩:=pw zT.out
         refine dm (v:= .tuple #[.agg #[.slice D k bX,.slice A an ac,.int .i64 am,.int .u64 f,.int .u64 ce,.int .u64 at_,.int .u64 le],.int .i64 0]) (by simp[results,results224,go_sem,ny,u1,u2,u3,u4,uF,uG]) rfl ?_;rw[JI.out];exact⟨D,k,bX,A,an,ac,rfl,agO.out,hnd,agP.out,hna,lP.out⟩
       .have nL:Hid (pi bs=none):=by
         have h:=zS.out;rw[if_neg (by
          intro h1;have h2:=r4.out;rw[h1.2.1] at h2;exact Bw h2)] at h
         exact h
        have ant:(0:Int)<(n7:Int):=by omega
        clear zS uE;obtain⟨t0,t1,t2,t3,t4,t5,t6⟩:=pw eD;have jd:=ay eD 0;have s1:=ay eD 1;have s2:=ay eD 2;have s3:=ay eD 3;have dP:=ay eD 4;have jy:=ay eD 5;have iY:=ay eD 6;have h7:=FO _ g2 _ _ _ _ _ _ _ (.slice none 0 0) (.slice none 0 0) (.int .i64 0) (.int .u64 0) (.int .u64 0) (.int .u64 0) (.int .u64 0) _ eD;have nU:=lK jb F9 h7.2;have zT:=aoU h7.1;have lP:=aoU nU
        clear h7 nU jb eD;go_wp2_with fail;obtain⟨ny,u1,u2,u3,u4,uF,uG⟩:=pw zT.out;refine dm (v:= .tuple #[.agg #[.slice none 0 0,.slice none 0 0,.int .i64 0,.int .u64 0,.int .u64 0,.int .u64 0,.int .u64 0],.int .i64 3]) (by simp[results,results224,go_sem,ny,u1,u2,u3,u4,uF,uG]) rfl ?_;rw[nL.out];exact⟨rfl,lP.out⟩
 .have anu:¬(qe:Int)=0:=by omega
  have anv:((qe:Int) !=0)=true:=by simp;omega
  have hno:pi bs=none:=by
   unfold pi;rw[kG.out];exact if_neg (λh=>Cj h.1)
  have nL:=aoU hno;clear hno;have eD:=kM;have jb:=sB;have F9:w.heap.size<=g2:=by omega
  clear kM sB SJ;obtain⟨t0,t1,t2,t3,t4,t5,t6⟩:=pw eD;have jd:=ay eD 0;have s1:=ay eD 1;have s2:=ay eD 2;have s3:=ay eD 3;have dP:=ay eD 4;have jy:=ay eD 5;have iY:=ay eD 6;have h7:=FO _ g2 _ _ _ _ _ _ _ (.slice none 0 0) (.slice none 0 0) (.int .i64 0) (.int .u64 0) (.int .u64 0) (.int .u64 0) (.int .u64 0) _ eD;have nU:=lK jb F9 h7.2;have zT:=aoU h7.1;have lP:=aoU nU
  clear h7 nU jb eD;go_wp2_with fail;obtain⟨ny,u1,u2,u3,u4,uF,uG⟩:=pw zT.out;refine dm (v:= .tuple #[.agg #[.slice none 0 0,.slice none 0 0,.int .i64 0,.int .u64 0,.int .u64 0,.int .u64 0,.int .u64 0],.int .i64 3]) (by simp[results,results224,go_sem,ny,u1,u2,u3,u4,uF,uG]) rfl ?_;rw[nL.out];exact⟨rfl,lP.out⟩
theorem BH{most x:Nat}(r:List UInt8)(hx:x<=most)(hm:most<18446744073709551616):eK most (cU x++r) true=(x,r,true):=by
 unfold eK;have h:=L5 x r (by omega);rw[h];simp[hx]
theorem agQ{f:dM}(h:nQ f=true):0<=f.1/\f.1<=3/\1<=f.2/\f.2<=1073741824:=by
 simp only[nQ,kh,ij,decide_eq_true_eq] at h;omega
theorem tc(add:List dM)(r:List UInt8)(hall:∀f∈add,nQ f=true):∀k,k<=add.length->xo k (kN add++r,true)=(add.take k,(kN (add.drop k)++r,true))
 |0,_=>by simp[xo]
 |k+1,hk=>by
  have ih:=tc add r hall k (by omega);have bS:k<add.length:=by omega
  have hb:=agQ (hall (add[k]) (List.getElem_mem bS));have hd:add.drop k=add[k]::add.drop (k+1):=List.drop_eq_getElem_cons bS;have e1:kN (add.drop k)++r=cU (add[k]).1.toNat++(cU (add[k]).2.toNat++(kN (add.drop (k+1))++r)):=by
   rw[hd];simp only[kN,List.flatMap_cons,jg]
  have e2:eK 3 (kN (add.drop k)++r) true=((add[k]).1.toNat,cU (add[k]).2.toNat++(kN (add.drop (k+1))++r),true):=by
   rw[e1];exact BH _ (by omega) (by decide)
  have bG:eK 1073741824 (cU (add[k]).2.toNat++(kN (add.drop (k+1))++r)) true=((add[k]).2.toNat,kN (add.drop (k+1))++r,true):=BH _ (by omega) (by decide);simp only[xo,ih,e2,bG];rw[lU bS];have bT:(((add[k]).1.toNat:Int),((add[k]).2.toNat:Int))=add[k]:=by
   apply Prod.ext
   .show((add[k]).1.toNat:Int)=_;omega
   .show((add[k]).2.toNat:Int)=_;omega
  rw[bT]
theorem agR(ds:List Int)(hall:∀x∈ds,kh x=true):(dq ds).map minD=ds:=by
 unfold dq;rw[List.map_map]
 conv=>rhs;rw[<- List.map_id' ds]
 apply List.map_congr_left;intro x hx;have h:=hall x hx;simp only[kh,decide_eq_true_eq] at h;show((FZ (UInt64.ofNat x.toNat).toNat:Nat):Int)=x;have e:(UInt64.ofNat x.toNat).toNat=x.toNat:=by
  rw[UInt64.toNat_ofNat_of_lt'];show x.toNat<18446744073709551616;omega
 rw[e];unfold FZ;rw[if_neg (by omega)];omega
theorem agS{ds:List Int}{add:List dM}{am:Int}{f ce at_ le:Nat}(hm:rx ds add am f ce at_ le=true):pi (qu ds add am f ce at_ le)=some (ds,add,am,f,ce,at_,le):=by
 have hm0:=hm;simp only[rx,ij,decide_eq_true_eq,List.all_cons,List.all_nil,nR,Bool.and_true] at hm;obtain⟨m1,m2,m3,m4,⟨anw,anx,anz,anA⟩,m6,m7⟩:=hm;have h1:oQ (qu ds add am f ce at_ le) 40=(dq ds,(oO (dq ds)).length,0):=by
  have h:=aaF (dq ds) (cU add.length++(kN add++oY [am.toNat,f,ce,at_,le])) 40 (by rw[ME];omega) (by rw[ME];omega);unfold qu;rw[jg,jg];exact h
 have h2:(qu ds add am f ce at_ le).drop (oO (dq ds)).length=cU add.length++(kN add++oY [am.toNat,f,ce,at_,le]):=by
  unfold qu;rw[jg,jg,List.drop_left]
 have h3:eK 40 ((qu ds add am f ce at_ le).drop (oO (dq ds)).length) true=(add.length,(kN add++oY [am.toNat,f,ce,at_,le]),true):=by
  rw[h2];exact BH _ m2 (by decide)
 have h4:xo add.length (kN add++oY [am.toNat,f,ce,at_,le],true)=(add,(oY [am.toNat,f,ce,at_,le],true)):=by
  have h:=tc add (oY [am.toNat,f,ce,at_,le]) (List.all_eq_true.1 m7) add.length (aZ _);rw[h];simp[kN]
 have n0:oY [am.toNat,f,ce,at_,le]=cU am.toNat++(cU f++(cU ce++(cU at_++(cU le++[])))):=by simp[oY]
 have h5:eK 1073741824 (oY [am.toNat,f,ce,at_,le]) true=(am.toNat,cU f++(cU ce++(cU at_++(cU le++[]))),true):=by rw[n0];exact BH _ (by omega) (by decide)
 have h6:=BH (most:=281474976710656) (x:=f) (cU ce++(cU at_++(cU le++[]))) (by omega) (by decide);have h7:=BH (most:=281474976710656) (x:=ce) (cU at_++(cU le++[])) (by omega) (by decide);have h8:=BH (most:=281474976710656) (x:=at_) (cU le++[]) (by omega) (by decide);have h9:=BH (most:=281474976710656) (x:=le) [] (by omega) (by decide);have hl:((am.toNat:Nat):Int)=am:=by omega
 unfold pi;simp only[h1,h3,h4,h5,h6,h7,h8,h9,agR ds (List.all_eq_true.1 m6),hl,hm0];simp
end
end Go.Proofs.YtfghplfgndppfaaGreatDoor
