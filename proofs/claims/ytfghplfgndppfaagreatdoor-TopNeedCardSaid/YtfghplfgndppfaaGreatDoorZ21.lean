/- Texts of this claim, joined: TpW18, TpW21, NdW2, NdW3, NdW5, NdW6, NdW7. -/
import Derived.Test.YtfghplfgndppfaaGreatDoorZ13
import Derived.Test.YtfghplfgndppfaaGreatDoorZ17
import Derived.Test.YtfghplfgndppfaaGreatDoorZ20
set_option linter.unusedVariables false
set_option linter.unusedSimpArgs false
set_option maxRecDepth 100000
set_option maxHeartbeats 8000000
namespace Go.Proofs.YtfghplfgndppfaaGreatDoor
open Go.Proofs.Tryz
section
open Go.RowKit
theorem aiv:jr prog 118 496 2 32:=jr.mk' underlying118 (z:= .agg #[.int .u64 0,.slice none 0 0]) (by kernel_rfl) rfl (by decide)
theorem aiw(v:vw):∀u∈vx v,u.oneCell'=true:=by
 intro u hu;simp only[vx,List.mem_cons,List.not_mem_nil,or_false] at hu;rcases hu with rfl|rfl <;>rfl
theorem aix(ca:dT)(G:Option Addr)(gc:Nat)(A:Option Addr)(ac:Nat)(x:Nat×List aC)(L:Option Addr)(rc:Nat):(gI ca G gc A ac).setIfInBounds 16 (.slice L (ca.cW.length+1) rc)=gI { ca with cW:=ca.cW++[x] } L rc A ac:=by
 simp[gI,ao4,lk]
theorem aiy{B g:Nat}{ca:dT}{K X:aD}{w:World}(H:gJ B g ca K X w)(hA:cy K X w)(hf:ca.fin=none)(v:em)(hv:Rd w w.heap.size 5 v.A v.m.l.length (bl v.m.l))(si:0<v.m.l.length->∀k,bW v.A k->¬X k)(hlen:v.m.l.length<=1500)(hok:gT v.m=true)(ht:v.m.t=ca.at_)(hid:v.m.id=ca.id)(hfn:v.m.f<ca.n)(hn:ca.n<=7)(kP:ca.cnt.getD v.m.f false=false)(jN:ca.c.kind=3)(hk:v.m.k=5)(cn:ca.cnt.length=7)(hct:ca.count<=1000)(eG:ca.cW.length<=1000)(hi:DP { ca with cW:=ca.cW++[(v.m.n,v.m.l)] }):
 Calls prog 414 #[.pointer (some ⟨g,0,none⟩),.agg #[.int .i64 v.m.k,.int .i64 v.m.f,.int .i64 v.m.t,.int .u64 v.m.id,.int .u64 v.m.n,.slice v.A v.m.l.length v.c]] w λe w'=>e= .returned (.bool true)/\∃K' X',gJ B g (pN { ca with cW:=ca.cW++[(v.m.n,v.m.l)] } v.m.f) K' X' w'/\aO K X w K' X' w'/\cy K' X' w':=by
 have hl2:=hlen;obtain⟨⟨mk,mf,mt,mid,mn,l⟩,bj,dS⟩:=v
 (try dsimp only at *)
 subst ht hid;have yg:∀k,X k->k<w.heap.size:=λk hk=>(bH.call.lt H hk).2
 have dr:=aoU H;obtain⟨G,gc,A,ac,gs,h1,h2,h3,h4,h5,h6,h7⟩:=H;have iM:=λW (hW:Rd W W.heap.size 5 bj l.length (bl l))=>zl (mk:Int) (mf:Int) (ca.at_:Int) ca.id mn bj l.length dS l W hW (by omega)
 have gW:pM (mk:Int) (mf:Int) (ca.at_:Int) ca.id mn l=true:=hok;rw[gW] at iM;have lj:=aoU iM;have aQ:aoV w (w.alloc (.cells #[.int .i64 mk,.int .i64 mf,.int .i64 ca.at_,.int .u64 ca.id,.int .u64 mn,.slice bj l.length dS] 135)):=(aoV.refl w).alloc _;have aL:=bp w (.cells #[.int .i64 mk,.int .i64 mf,.int .i64 ca.at_,.int .u64 ca.id,.int .u64 mn,.slice bj l.length dS] 135);have y1:decide (ca.n<=mf)=false:=by rw[iO];omega
 have lZ:decide ((ca.n:Int)<=(mf:Int))=false:=by rw[iO];omega
 have wT:¬(mf:Int)<0:=by omega
 have oe:(mf:Int)<7:=by omega
 have vk:((mf:Nat):Int).toNat=mf:=by omega
 have fK:(gI ca G gc A ac)[8+mf]?=some (.bool false):=by rw[Gm ca G gc A ac (by omega),kP]
 have hdone:(gI ca G gc A ac)[29]?=some (.bool false):=by simp[gI,lk,hf]
 have hcell:∀W,aoV (w.alloc (.cells #[.int .i64 mk,.int .i64 mf,.int .i64 ca.at_,.int .u64 ca.id,.int .u64 mn,.slice bj l.length dS] 135)) W->(aoV (w.alloc (.cells #[.int .i64 mk,.int .i64 mf,.int .i64 ca.at_,.int .u64 ca.id,.int .u64 mn,.slice bj l.length dS] 135)) W/\Rd W W.heap.size 5 bj l.length (bl l))/\W.cell? ⟨g,29,none⟩=some (.bool false)/\W.cell? ⟨g,0,none⟩=some (.int .i64 ca.n)/\W.cell? ⟨g,1,none⟩=some (.int .i64 ca.at_)/\W.cell? ⟨g,2,none⟩=some (.int .u64 ca.id)/\W.cell? ⟨g,8+mf,none⟩=some (.bool false)/\W.cell? ⟨g,3,none⟩=some (.int .i64 ca.c.kind)/\
  W.cell? ⟨w.heap.size,0,none⟩=some (.int .i64 mk)/\W.cell? ⟨w.heap.size,1,none⟩=some (.int .i64 mf)/\W.cell? ⟨w.heap.size,2,none⟩=some (.int .i64 ca.at_)/\W.cell? ⟨w.heap.size,3,none⟩=some (.int .u64 ca.id)/\W.cell? ⟨w.heap.size,4,none⟩=some (.int .u64 mn)/\W.cell? ⟨w.heap.size,5,none⟩=some (.slice bj l.length dS):=λW hW=>by
  have e1:=aH (aQ.trans hW) h1;have e2:=aH hW aL;exact⟨⟨hW,hv.up (aQ.trans hW)⟩,(aoW e1 29).trans hdone,aoW e1 0,aoW e1 1,aoW e1 2,(aoW e1 (8+mf)).trans fK,aoW e1 3,aoW e2 0,aoW e2 1,aoW e2 2,aoW e2 3,aoW e2 4,aoW e2 5⟩
 have cB:=aoU hcell;have mK:=aoU aL;have dz:=aoU hf;have k9:=aoU kP;clear hcell aL iM gW fK hdone hok hf kP h1 h2 h3 h4 h5 h6 h7 hv hlen;have fV:=aoU hk;have pV:=aoU cn;clear hk cn;go_enter func414,ntmps414
 go_wp2_with fail;generalize cM:w.alloc (.cells #[.int .i64 mk,.int .i64 mf,.int .i64 ca.at_,.int .u64 ca.id,.int .u64 mn,.slice bj l.length dS] 135)=wa at *;generalize eH:w.heap.size=br at *;apply V.fQ _ (by kernel_rfl) (by kernel_rfl) cB.out
 .intro aF aoX;iterate 5 (apply V.aj.ok;intros;go_simp;rfl;rfl;go_frame)
  iterate 1 (apply V.aj.eI (t:=10);intros;go_simp;rfl;rfl;intro;rfl;go_frame)
  apply V.aj.p7 (t:=10) (.bool true) [];rfl
  .intro vs;rfl
  .intro vs w1 hK hS _ K ah;go_simp;refine(lj.out _ hS.1.2).mono ?_;rintro e w2⟨rfl,aq⟩;exact ah.out _ aq
  simp only[au,Nat.reduceAdd];iterate 1 (apply V.aj.eI (t:=10);intros;go_simp;rfl;rfl;intro;rfl;go_frame)
  iterate 2 (apply V.aj.ok;intros;go_simp;rfl;rfl;go_frame)
  iterate 7 (apply V.aj.eI (t:=15);intros;go_simp;rfl;rfl;intro;rfl;go_frame)
  iterate 2 (apply V.aj.ok;intros;go_simp;rfl;rfl;go_frame)
  iterate 7 (apply V.aj.eI (t:=24);intros;go_simp;rfl;rfl;intro;rfl;go_frame)
  iterate 2 (apply V.aj.ok;intros;go_simp;rfl;rfl;go_frame)
  iterate 7 (apply V.aj.eI (t:=33);intros;go_simp;rfl;rfl;intro;rfl;go_frame)
  iterate 2 (apply V.aj.ok;intros;go_simp;rfl;rfl;go_frame)
  iterate 7 (apply V.aj.eI (t:=42);intros;go_simp;rfl;rfl;intro;rfl;go_frame)
  iterate 1 (apply V.aj.ok;intros;go_simp;rfl;rfl;go_frame)
  apply V.aj.fin [];intro vs w1 hK hS _;refine aoX.out _ _ ?_;clear aoX;obtain⟨⟨hu1,sj⟩,Gn,c0,c1,c2,uV,c3,d0,d1,d2,d3,d4,d5⟩:=hS;have aiz:=bH.call.up dr.out hA (aQ.trans hu1);have DR:=hA.up (aQ.trans hu1);have FF:aO K X w K X w1:=aO.up (aQ.trans hu1);have Ki:=aH hu1 mK.out;clear cB lj mK;have hk:=fV.out;clear fV;subst hk;rw[show((5:Nat):Int)=5 from rfl] at *;have z3:((ca.c.kind:Int)==3)=true:=by rw[jN];rfl
  go_wp2_with fail;clear Gn c0 c1 c2 uV c3 d0 d1 d2 d3 d4 d5 z3;generalize w1=wb at *;obtain⟨G,gc,A,ac,gs,h1,h2,h3,h4,h5,h6,h7⟩:=aiz;obtain⟨an,kE⟩:=bB l.length
  obtain⟨n,hnn⟩:=bB ca.cW.length
  have apv:=aoU (λW (hW:Rd W W.heap.size 5 bj an (bl l))=>Yi (5:Int) (mf:Int) (ca.at_:Int) ca.id mn bj an dS l W hW (by omega));have Jm:∀R rr,vx ⟨mn,l,R,rr⟩= [.int .u64 mn,.slice R an rr]:=λR rr=>by rw[kE];rfl
  have aiA:=aoU Jm;have N8:(gI ca G gc A ac)[16]?=some (.slice G n gc):=by rw[hnn];rfl
  rw[<- kE] at sj Ki;rw[<- hnn] at h3;have Bf:=aoU kE;have DS:=aoU hnn;have Fz:=aoU N8;have hnl:n<=1000:=by omega
  clear kE hnn Jm N8;have rC:br≠g:=λe=>by
   have BW:=h1;rw[<- e] at BW;exact absurd (cS Ki BW) (by decide)
  have p4:¬bg G br:=λhk=>by
   obtain⟨cs,z,q1⟩:=iL h3 hk;exact absurd (cS Ki q1) (by decide)
  have n4:¬bg G g:=λhk=>BV h1 h3 hk rfl
  have hbW:B<=wb.heap.size:=by have:=aB h1;omega
  have q6:∀k,bg G k->k<wb.heap.size:=λk hk=>(bH.call.lt (by exact bH.call.up dr.out hA (aQ.trans hu1)) ((h4 k).2 (.inr hk))).2
  apply V.iE (λi vs W=>(V.af (λk=>k=g\/bg G k) wb W/\W.heap[br]?=some (.cells #[.int .i64 5,.int .i64 mf,.int .i64 ca.at_,.int .u64 ca.id,.int .u64 mn,.slice bj an dS] 135 (0,0)))/\
   (i<=5->W.heap[g]?=some (.cells (gI ca G gc A ac) 130 (0,0)))/\
   (i<=4->W.ownsRow B 496 2 (.slice G n gc) n (yi gs))/\
   (i=1->∃R rr,vs 8= .agg #[.int .i64 5,.int .i64 mf,.int .i64 ca.at_,.int .u64 ca.id,.int .u64 mn,.slice R an rr]/\ej W wb.heap.size R an rr l)/\
   (i=2->∃R rr,vs 9= .slice R an rr/\ej W wb.heap.size R an rr l)/\
   (i=3->∃R rr,vs 10= .agg #[.int .u64 mn,.slice R an rr]/\ej W wb.heap.size R an rr l)/\
   (i=4->∃R rr Q,vs 11= .slice (some ⟨Q,0,none⟩) 1 1/\W.ownsRow wb.heap.size 496 2 (.slice (some ⟨Q,0,none⟩) 1 1) 1 (vx ⟨mn,l,R,rr⟩)/\ej W wb.heap.size R an rr l)/\
   (i=5->∃R rr L' rc',vs 12= .slice L' (n+1) rc'/\W.ownsRow B 496 2 (.slice L' (n+1) rc') (n+1) (yi gs++vx ⟨mn,l,R,rr⟩)/\(∀k,bg L' k->bg G k\/wb.heap.size<=k)/\ej W wb.heap.size R an rr l)/\
   (i=6->∃R rr L' rc',W.heap[g]?=some (.cells ((gI ca G gc A ac).setIfInBounds 16 (.slice L' (n+1) rc')) 130 (0,0))/\W.ownsRow B 496 2 (.slice L' (n+1) rc') (n+1) (yi gs++vx ⟨mn,l,R,rr⟩)/\(∀k,bg L' k->bg G k\/wb.heap.size<=k)/\ej W wb.heap.size R an rr l))
   (by kernel_rfl) (by kernel_rfl) (λvs=>⟨⟨V.af.co (aoV.drew (aoV.refl wb)),aH (aoV.drew (aoV.refl wb)) Ki⟩,λ_=>aH (aoV.drew (aoV.refl wb)) h1,λ_=>el h3 (aoV.drew (aoV.refl wb)),λe=>absurd e (by decide),λe=>absurd e (by decide),λe=>absurd e (by decide),λe=>absurd e (by decide),λe=>absurd e (by decide),λe=>absurd e (by decide)⟩)
  .intro aF aoX;iterate 4 (apply V.az.ok;intros;go_simp;rfl;rfl;go_frame)
   apply V.az.early 15 5
   .intro i vs ag hi hS;have c1:ag.cell? ⟨g,16,none⟩=some (.slice G n gc):=(aoW (hS.2.1 hi) 16).trans Fz.out;clear hS;go_simp
    with_reducible rfl
   .rfl
   simp only[au,Nat.reduceAdd];iterate 3 (apply V.az.ok;(· intro i vs ag hS;have aL:=hS.1.2;obtain⟨d0,d1,d2,d3,d4,d5⟩:=iQ aL;clear hS aL;go_simp;(try with_reducible rfl));(· rfl);simp only[au,Nat.reduceAdd])
   apply V.az.cG;rfl
   .intro vs ag hS cY ah;obtain⟨⟨k1,k2⟩,aY,cJ,-⟩:=hS;have aY:=aY (by decide);have cJ:=cJ (by decide);have Df:=sj.sW (aZ _) (λh0 a ha e=>si (by have:=Bf.out;omega) a.block ⟨a,ha,rfl⟩ ((h4 _).2 e)) k1;go_simp;refine(apv.out ag Df).mono ?_;rintro e ai⟨R,rr,rfl,ho,cI⟩;exact ah.out _ _ ⟨⟨ci k1 (V.af.co cI),aH cI k2⟩,λ_=>aH cI aY,λ_=>el cJ cI,λ_=>⟨R,rr,by rw[V.eV],jP ho k1.size⟩,λe=>absurd e (by decide),λe=>absurd e (by decide),λe=>absurd e (by decide),λe=>absurd e (by decide),λe=>absurd e (by decide)⟩
   simp only[au,Nat.reduceAdd];apply V.az.cG;rfl
   .intro vs ag hS cY ah;obtain⟨Kj,aY,cJ,eP,-⟩:=hS;obtain⟨R,rr,iq,ho⟩:=eP rfl;have aS:=ah.out (.slice R an rr) ag ⟨Kj,λ_=>aY (by decide),λ_=>cJ (by decide),λe=>absurd e (by decide),λ_=>⟨R,rr,by rw[V.eV],ho⟩,λe=>absurd e (by decide),λe=>absurd e (by decide),λe=>absurd e (by decide),λe=>absurd e (by decide)⟩;have aK:=aoU aS;clear aS ah aY cJ eP Kj ho
    (try dsimp only at aK|-)
    rw[iq] at aK|-;clear iq;go_simp;exact aK.out
   simp only[au,Nat.reduceAdd];apply V.az.cG;rfl
   .intro vs ag hS cY ah;obtain⟨Kj,aY,cJ,-,eP,-⟩:=hS;obtain⟨R,rr,iq,ho⟩:=eP rfl;have aS:=ah.out (.agg #[.int .u64 mn,.slice R an rr]) ag ⟨Kj,λ_=>aY (by decide),λ_=>cJ (by decide),λe=>absurd e (by decide),λe=>absurd e (by decide),λ_=>⟨R,rr,by rw[V.eV],ho⟩,λe=>absurd e (by decide),λe=>absurd e (by decide),λe=>absurd e (by decide)⟩;have aK:=aoU aS;clear aS ah aY cJ eP Kj ho
    (try dsimp only at aK|-)
    rw[iq] at aK|-;clear iq;go_simp;exact aK.out
   simp only[au,Nat.reduceAdd];apply V.az.cG;rfl
   .intro vs ag hS cY ah;obtain⟨⟨k1,k2⟩,aY,cJ,-,-,eP,-⟩:=hS;have aY:=aY (by decide);have cJ:=cJ (by decide);obtain⟨R,rr,iq,ho⟩:=eP rfl
    (try dsimp only at ah|-)
    rw[iq] at ah|-;have ab9:=aoU iq;clear iq;have hal:=(aoV.refl ag).alloc (.cells #[.int .u64 mn,.slice R an rr] 496);have jW:=wt ag #[.int .u64 mn,.slice R an rr] 496 (base:=wb.heap.size) (sz:=2) (n:=1) k1.size rfl (by omega)
    have kK:=ah.out (.slice (some ⟨ag.heap.size,0,none⟩) 1 1) _ ⟨⟨ci k1 (V.af.co hal),aH hal k2⟩,λ_=>aH hal aY,λ_=>el cJ hal,λe=>absurd e (by decide),λe=>absurd e (by decide),λe=>absurd e (by decide),λ_=>⟨R,rr,ag.heap.size,by rw[V.eV],by rw[aiA.out];exact jW,el ho hal⟩,λe=>absurd e (by decide),λe=>absurd e (by decide)⟩;have Q0:=aoU kK;clear ah kK;go_simp;exact Q0.out
   simp only[au,Nat.reduceAdd];apply V.az.cG;rfl
   .intro vs ag hS cY ah;obtain⟨⟨k1,k2⟩,aY,cJ,-,-,-,eP,-⟩:=hS;have aY:=aY (by decide);have cJ:=cJ (by decide);obtain⟨R,rr,Q,hv7,DT,ho⟩:=eP rfl
    (try dsimp only at ah|-)
    rw[hv7] at ah|-;refine uP _ _ _ aiv rfl rfl rfl cJ (Rd.own DT) (aiw _) (by omega) (by omega) (by have:=k1.size;omega) λv' ai ho' hg' m8=>?_
    obtain⟨L',rc',rfl⟩:=eL ho';have hKr:=qZ cJ hg';have hat:=uY m8;refine ah.out _ _ ⟨⟨ci k1 (eQ hKr (λk hk=> .inr hk)),cL hKr k2 p4⟩,λ_=>cL hKr aY n4,λe=>absurd e (by decide),λe=>absurd e (by decide),λe=>absurd e (by decide),λe=>absurd e (by decide),λe=>absurd e (by decide),λ_=>⟨R,rr,L',rc',by rw[V.eV],ho',λk hk=>(hat k hk).imp id (λh=>bQ k1.size h),iC ho hKr (λk hk hf=>?_)⟩,λe=>absurd e (by decide)⟩;have h1:=q6 k hf;obtain⟨a,rfl,rfl⟩:=hk;have:=(jO ho a.block rfl).1
    omega
   simp only[au,Nat.reduceAdd];iterate 2 (apply V.az.ok;intros;go_simp;rfl;rfl;go_frame)
   apply V.az.call undef;rfl
   .intro vs ag hS cY ah;obtain⟨⟨k1,k2⟩,aY,-,-,-,-,-,eP,-⟩:=hS;have aY:=aY (by decide);obtain⟨R,rr,L',rc',nV,h8,hat,ho⟩:=eP rfl;have c1:ag.cell? ⟨g,16,none⟩=some (.slice G n gc):=(aoW aY 16).trans Fz.out;have s1:=ay aY 16;have bC:=bM ag g 16 (.slice L' (n+1) rc') _ _ aY;have kQ:V.af (λx=>x=g) ag (ag.setCell ⟨g,16,none⟩ (.slice L' (n+1) rc')):=aoZ _ _ g 16 _ (V.af.refl _ _)
    have aS:=ah.out _ ⟨⟨ci k1 (eQ kQ (λk hk=> .inl hk)),cL kQ k2 rC⟩,λe=>absurd e (by decide),λe=>absurd e (by decide),λe=>absurd e (by decide),λe=>absurd e (by decide),λe=>absurd e (by decide),λe=>absurd e (by decide),λe=>absurd e (by decide),λ_=>⟨R,rr,L',rc',bC,iC h8 kQ (λk hk=>BV aY h8 hk),hat,iC ho kQ (λk hk e=>by
     have e:k=g:=e;obtain⟨a,rfl,rfl⟩:=hk;have:=(jO ho a.block rfl).1;have:=aB h1;omega)⟩⟩
    have aK:=aoU aS;clear ah aS bC h8 ho hat
    (try dsimp only at aK|-)
    rw[nV] at aK|-;clear nV;go_simp;exact aK.out
   simp only[au,Nat.reduceAdd];apply V.az.fin;intro vs ag hS;obtain⟨⟨k1,Kf⟩,-,-,-,-,-,-,-,eP⟩:=hS;obtain⟨R,rr,L',rc',aY,cJ,hat,ho⟩:=eP rfl;refine aoX.out _ _ ?_;clear aoX eP
   (try dsimp only)
   have np:∀k,bg R k->wb.heap.size<=k/\k<ag.heap.size:=λk hk=>by
    obtain⟨a,rfl,rfl⟩:=hk;exact jO ho a.block rfl
   have Dg:V.af X wb ag:=eQ k1 (λk hk=>(h4 k).2 hk);have MM:∀k,X k->k<wb.heap.size:=λk hk=>by have:=yg k hk;have:=aQ.size;have:=hu1.size;omega
   have hcs:(gI ca G gc A ac).setIfInBounds 16 (.slice L' (n+1) rc')=gI { ca with cW:=ca.cW++[(mn,l)] } L' rc' A ac:=by rw[DS.out];exact aix ca G gc A ac (mn,l) L' rc'
   rw[hcs] at aY;obtain⟨cb,hcb⟩:∃cb:dT,cb= { ca with cW:=ca.cW++[(mn,l)] } :=⟨_,rfl⟩
   rw[<- hcb] at aY;have eh:ca.cW++[(mn,l)]=(gs++[(⟨mn,l,R,rr⟩:vw)]).map (λv:vw=>(v.ce,v.l)):=by rw[kU,<- h5];rfl
   have TR:gJ B g cb (λk=>K k\/bg R k) (λk=>k=g\/bg L' k) ag:=by
    refine⟨L',rc',A,ac,gs++[⟨mn,l,R,rr⟩],aY,h2,?_,λk=>Iff.rfl,by rw[hcb];exact eh,λv hv=>?_,?_⟩
    .rw[hcb];dsimp only;rw[dG,<- DS.out];have:yi (gs++[⟨mn,l,R,rr⟩])=yi gs++vx ⟨mn,l,R,rr⟩:=by simp[yi]
     rw[this];exact cJ
    .rcases List.mem_append.1 hv with hv|hv
     .exact((h6 v hv).keep Dg (λk hk hx=>DR.ap k hx hk)).more (λk hk=> .inl hk)
     .rw[fi] at hv;subst hv;dsimp only;rw[<- Bf.out];exact⟨Rd.own ho,λh0 a ha=> .inr ⟨a,ha,rfl⟩⟩
    .have e9:ao4 cb=ao4 ca:=by rw[hcb];rfl
     rw[e9];exact(h7.keep Dg (λk hk hx=>DR.ap k hx hk)).more (λk hk=> .inl hk)
   have xw:cy (λk=>K k\/bg R k) (λk=>k=g\/bg L' k) ag:=by
    refine⟨λk hk hk2=>?_,λk hk=>?_⟩
    .rcases hk with rfl|hk
     .rcases hk2 with h|h
      .exact DR.ap _ ((h4 _).2 (.inl rfl)) h
      .have:=(np _ h).1;have:=MM _ ((h4 _).2 (.inl rfl));omega
     .rcases hk2 with h|h
      .rcases hat k hk with h9|h9
       .exact DR.ap k ((h4 k).2 (.inr h9)) h
       .have:=DR.lt k h;omega
      .obtain⟨cs,z,q1⟩:=iL cJ hk;obtain⟨cs',z',cP⟩:=iL ho h;exact absurd (cS q1 cP) (by decide)
    .rcases hk with h|h
     .have:=DR.lt k h;have:=k1.size;omega
     .exact(np k h).2
   have zW:aO K X w (λk=>K k\/bg R k) (λk=>k=g\/bg L' k) ag:=by
    refine FF.trans ⟨Dg,λk hk=>?_,λk hk=> .inl hk,λk hk=>hk.imp id (λh=>(np k h).1)⟩;rcases hk with rfl|hk
    .exact .inl ((h4 _).2 (.inl rfl))
    .rcases hat k hk with h|h
     .exact .inl ((h4 k).2 (.inr h))
     .exact .inr h
   have hi1:DP { cb with cnt:=cb.cnt.set mf true,count:=cb.count+1 } :=by rw[hcb];exact⟨hi.ce,hi.len,hi.pre,hi.fin,hi.n,hi.s⟩
   have fS:=aoU hi1;have gV:cb.fin=none:=by rw[hcb];exact dz.out
   have E':cb.cnt.length=7:=by rw[hcb];exact pV.out
   have anS:cb.count<=1000:=by rw[hcb];exact hct
   have hn2:cb.n<=7:=by rw[hcb];exact hn
   have Oc:=aoU hcb;clear dz pV;have dz:=aoU gV;have pV:=aoU E';clear hi1 gV E' hcb;clear h1 h2 h3 h4 h5 h6 h7 k1 aY cJ hat ho np Dg MM hcs eh DR FF rC p4 n4 hbW q6 Ki hi;go_wp2_with fail;have TS:=TR;obtain⟨xy,xA,sE,xB,Kg,q1,cP,dQ,eX,fM,tH,xC⟩:=TS;have rC:br≠g:=λe=>by
    have BW:=q1;rw[<- e] at BW;exact absurd (cS Kf BW) (by decide)
   have iW:∀W,V.af (λk=>k=g) ag W->W.cell? ⟨br,1,none⟩=some (.int .i64 mf):=λW hK=>aoW (cL hK Kf rC) 1
   have zX:=aoU iW;have u8:(gI cb xy xA sE xB)[8+mf]?=some (.bool (cb.cnt.getD mf false)):=Gm _ _ _ _ _ (by omega);have Gp:=aoU u8;clear iW rC u8;apply V.iE (λi vs W=>V.af (λk=>k=g) ag W/\(i=0->W.heap[g]?=some (.cells (gI cb xy xA sE xB) 130 (0,0)))/\(i=1->W.heap[g]?=some (.cells ((gI cb xy xA sE xB).setIfInBounds (8+mf) (.bool true)) 130 (0,0)))) (by kernel_rfl) (by kernel_rfl) (λvs=>⟨V.af.co (aoV.drew (aoV.refl ag)),λ_=>aH (aoV.drew (aoV.refl ag)) q1,λe=>absurd e (by decide)⟩)
   .intro aF aoX;iterate 6 (apply V.az.ok;(· intro i vs ai hS;have d1:=zX.out ai hS.1;clear hS;go_simp;(try with_reducible rfl));(· rfl);simp only[au,Nat.reduceAdd])
    apply V.az.call undef;rfl
    .intro vs ai hS aiu ah;obtain⟨j1,j2,-⟩:=hS;have j2:=j2 rfl;have e1:=(aoW j2 (8+mf)).trans Gp.out;have f1:=ay j2 (8+mf);have bC:=bM ai g (8+mf) (.bool true) _ _ j2;have hks:V.af (λk=>k=g) ai (ai.setCell ⟨g,8+mf,none⟩ (.bool true)):=aoZ _ _ g (8+mf) _ (V.af.refl _ _);have aS:=ah.out _ ⟨ci j1 hks,λe=>absurd e (by decide),λ_=>bC⟩;have aK:=aoU aS;clear ah aS bC hks j1 j2
     (try dsimp only at aK|-)
     go_simp;exact aK.out
    simp only[au,Nat.reduceAdd];apply V.az.fin;intro vs ai hS;obtain⟨j1,-,Kh⟩:=hS;have j2:=Kh rfl;clear Kh;refine aoX.out _ _ ?_;clear aoX
    (try dsimp only)
    have zY:ai.cell? ⟨g,15,none⟩=some (.int .i64 cb.count):=(aoW j2 15).trans (by rw[pZ (by omega)];rfl);have f15:=ay j2 15;have bC:=bM ai g 15 (.int .i64 ((cb.count:Int)+1)) _ _ j2;have hks:V.af (λk=>k=g) ai (ai.setCell ⟨g,15,none⟩ (.int .i64 ((cb.count:Int)+1))):=aoZ _ _ g 15 _ (V.af.refl _ _);have hwr:IntKind.i64.wrap ((cb.count:Int)+1)=(cb.count:Int)+1:=IntWalk.i64_in _ (by omega);have uM:∀k,(λk=>K k\/bg R k) k->k≠g:=λk hk e=>xw.ap g ((eX g).2 (.inl rfl)) (e▸hk)
    have sF:=aoU bC;clear bC;by_cases he:cb.count+1=jx cb.n
    .have z:(((cb.count:Int)+1)==(jx cb.n:Int))=true:=by rw[beq_iff_eq];omega
     have ft:=aoU he;have hs5:=sF.out;clear he sF;go_wp2_with fail;generalize ai.setCell ⟨g,15,none⟩ (.int .i64 ((cb.count:Int)+1))=fE at *;have lr:V.af (λk=>k=g) ag fE:=ci j1 hks;rw[Ob cb _ _ _ _ (by omega) pV.out] at hs5;have xD:gJ B g { cb with cnt:=cb.cnt.set mf true,count:=cb.count+1 } (λk=>K k\/bg R k) (λk=>k=g\/bg L' k) fE:=⟨xy,xA,sE,xB,Kg,hs5,cP,iC dQ lr (λk hk=>BV q1 dQ hk),eX,fM,λv hv=>(tH v hv).keep lr uM,xC.keep lr uM⟩
     have xE:cy (λk=>K k\/bg R k) (λk=>k=g\/bg L' k) fE:=⟨xw.ap,λk hk=>cg (xw.lt k hk) lr.size⟩
     have DQ:aO K X w (λk=>K k\/bg R k) (λk=>k=g\/bg L' k) fE:=zW.trans ⟨eQ lr (λk hk=>(eX k).2 (.inl hk)),λk hk=> .inl hk,λ_ h=>h,λ_ h=> .inl h⟩;have hcells:∀W,aoV fE W->aoV fE W/\W.cell? ⟨g,15,none⟩=some (.int .i64 ((cb.count:Int)+1))/\W.cell? ⟨g,0,none⟩=some (.int .i64 cb.n)/\W.cell? ⟨g,7,none⟩=some (.int .u64 cb.v):=λW hW=>by
      have h9:=aH hW hs5;exact⟨hW,(aoW h9 15).trans (by simp[gI]),aoW h9 0,aoW h9 7⟩
     have cB:=aoU hcells;clear hcells q1 cP dQ eX fM tH xC j1 j2 lr hks hs5 uM zY f15;apply V.fQ _ (by kernel_rfl) (by kernel_rfl) cB.out
     .intro aF aoX;iterate 8 (apply V.aj.ok;intros;go_simp;rfl;rfl;go_frame)
      apply V.aj.call (.int .i64 (jx cb.n:Int)) [];rfl
      .intro vs w1 hK hS _ K ah;go_simp;refine(Oa cb.n _ (by omega)).mono ?_;rintro e w2⟨rfl,rfl⟩;exact ah.out _ (aoV.refl _)
      simp only[au,Nat.reduceAdd];iterate 1 (apply V.aj.ok;intros;go_simp;rfl;rfl;go_frame)
      apply V.aj.fin [];intro vs w1 hK hS _;refine aoX.out _ _ ?_;clear aoX;obtain⟨fL,zY,c0,pz⟩:=hS;have xF:=bH.call.up xD xE fL;have xS:=xE.up fL;have tR:=aoU (S1 xF xS dz.out cb.v fS.out);clear xD xF cB;go_wp2_with fail;refine tR.out.mono ?_;rintro e Jq⟨rfl,TU,TW,TX,TY⟩;go_wp2_with fail;go_ret;refine⟨rfl,TU,(λk=>k=g\/bg L' k),?_,DQ.trans ((aO.up fL).trans TX),TY⟩
      (try rw[<- Oc.out])
      unfold pN;dsimp only;rw[if_pos ft.out];exact TW
     .kernel_rfl
    .have z:(((cb.count:Int)+1)==(jx cb.n:Int))=false:=by rw[beq_eq_false_iff_ne];omega
     have ft:=aoU he;have hs5:=sF.out;clear he sF;go_wp2_with fail;generalize ai.setCell ⟨g,15,none⟩ (.int .i64 ((cb.count:Int)+1))=fE at *;have lr:V.af (λk=>k=g) ag fE:=ci j1 hks;rw[Ob cb _ _ _ _ (by omega) pV.out] at hs5;have xD:gJ B g { cb with cnt:=cb.cnt.set mf true,count:=cb.count+1 } (λk=>K k\/bg R k) (λk=>k=g\/bg L' k) fE:=⟨xy,xA,sE,xB,Kg,hs5,cP,iC dQ lr (λk hk=>BV q1 dQ hk),eX,fM,λv hv=>(tH v hv).keep lr uM,xC.keep lr uM⟩
     have xE:cy (λk=>K k\/bg R k) (λk=>k=g\/bg L' k) fE:=⟨xw.ap,λk hk=>cg (xw.lt k hk) lr.size⟩
     have DQ:aO K X w (λk=>K k\/bg R k) (λk=>k=g\/bg L' k) fE:=zW.trans ⟨eQ lr (λk hk=>(eX k).2 (.inl hk)),λk hk=> .inl hk,λ_ h=>h,λ_ h=> .inl h⟩;have hcells:∀W,aoV fE W->aoV fE W/\W.cell? ⟨g,15,none⟩=some (.int .i64 ((cb.count:Int)+1))/\W.cell? ⟨g,0,none⟩=some (.int .i64 cb.n)/\W.cell? ⟨g,7,none⟩=some (.int .u64 cb.v):=λW hW=>by
      have h9:=aH hW hs5;exact⟨hW,(aoW h9 15).trans (by simp[gI]),aoW h9 0,aoW h9 7⟩
     have cB:=aoU hcells;clear hcells q1 cP dQ eX fM tH xC j1 j2 lr hks hs5 uM zY f15;apply V.fQ _ (by kernel_rfl) (by kernel_rfl) cB.out
     .intro aF aoX;iterate 8 (apply V.aj.ok;intros;go_simp;rfl;rfl;go_frame)
      apply V.aj.call (.int .i64 (jx cb.n:Int)) [];rfl
      .intro vs w1 hK hS _ K ah;go_simp;refine(Oa cb.n _ (by omega)).mono ?_;rintro e w2⟨rfl,rfl⟩;exact ah.out _ (aoV.refl _)
      simp only[au,Nat.reduceAdd];iterate 1 (apply V.aj.ok;intros;go_simp;rfl;rfl;go_frame)
      apply V.aj.fin [];intro vs w1 hK hS _;refine aoX.out _ _ ?_;clear aoX;obtain⟨fL,zY,c0,pz⟩:=hS;have xF:=bH.call.up xD xE fL;have xS:=xE.up fL;have apL:=aoU xF;clear xD xF cB;go_wp2_with fail;go_ret;refine⟨rfl,(λk=>K k\/bg R k),(λk=>k=g\/bg L' k),?_,DQ.trans (aO.up fL),xS⟩
      (try rw[<- Oc.out])
      unfold pN;dsimp only;rw[if_neg ft.out];exact apL.out
     .kernel_rfl
   .kernel_rfl
  .kernel_rfl
 .kernel_rfl
theorem aiB{B g:Nat}{ca:dT}{K X:aD}{w:World}(H:gJ B g ca K X w)(hf:ca.fin=none)(v:em)(hv:Rd w w.heap.size 5 v.A v.m.l.length (bl v.m.l))(hlen:v.m.l.length<=1500)(hok:gT v.m=true)(ht:v.m.t=ca.at_)(hid:v.m.id≠ca.id):
 Calls prog 414 #[.pointer (some ⟨g,0,none⟩),.agg #[.int .i64 v.m.k,.int .i64 v.m.f,.int .i64 v.m.t,.int .u64 v.m.id,.int .u64 v.m.n,.slice v.A v.m.l.length v.c]] w λe w'=>e= .returned (.bool false)/\aoV w w':=by
 obtain⟨⟨mk,mf,mt,mid,mn,l⟩,bj,dS⟩:=v
 (try dsimp only at *)
 subst ht;obtain⟨G,gc,A,ac,gs,h1,h2,h3,h4,h5,h6,h7⟩:=H;have iM:=λW (hW:Rd W W.heap.size 5 bj l.length (bl l))=>zl (mk:Int) (mf:Int) (ca.at_:Int) mid mn bj l.length dS l W hW (by omega)
 have gW:pM (mk:Int) (mf:Int) (ca.at_:Int) mid mn l=true:=hok;rw[gW] at iM;have lj:=aoU iM;have aQ:aoV w (w.alloc (.cells #[.int .i64 mk,.int .i64 mf,.int .i64 ca.at_,.int .u64 mid,.int .u64 mn,.slice bj l.length dS] 135)):=(aoV.refl w).alloc _;have aL:=bp w (.cells #[.int .i64 mk,.int .i64 mf,.int .i64 ca.at_,.int .u64 mid,.int .u64 mn,.slice bj l.length dS] 135);have anT:((mid:Int)==(ca.id:Int))=false:=by rw[beq_eq_false_iff_ne];omega
 have anU:decide ((mid:Int)=(ca.id:Int))=false:=by rw[iO];omega
 have anV:decide (mid=ca.id)=false:=by rw[iO];omega
 have anW:(mid==ca.id)=false:=by rw[beq_eq_false_iff_ne];omega
 have anX:((mid:Int) !=(ca.id:Int))=true:=by rw[bne_iff_ne];omega
 have anY:(mid !=ca.id)=true:=by rw[bne_iff_ne];omega
 have hdone:(gI ca G gc A ac)[29]?=some (.bool false):=by simp[gI,lk,hf]
 have hcell:∀W,aoV (w.alloc (.cells #[.int .i64 mk,.int .i64 mf,.int .i64 ca.at_,.int .u64 mid,.int .u64 mn,.slice bj l.length dS] 135)) W->(aoV (w.alloc (.cells #[.int .i64 mk,.int .i64 mf,.int .i64 ca.at_,.int .u64 mid,.int .u64 mn,.slice bj l.length dS] 135)) W/\Rd W W.heap.size 5 bj l.length (bl l))/\W.cell? ⟨g,29,none⟩=some (.bool false)/\W.cell? ⟨g,0,none⟩=some (.int .i64 ca.n)/\W.cell? ⟨g,1,none⟩=some (.int .i64 ca.at_)/\W.cell? ⟨g,2,none⟩=some (.int .u64 ca.id)/\
  W.cell? ⟨w.heap.size,0,none⟩=some (.int .i64 mk)/\W.cell? ⟨w.heap.size,1,none⟩=some (.int .i64 mf)/\W.cell? ⟨w.heap.size,2,none⟩=some (.int .i64 ca.at_)/\W.cell? ⟨w.heap.size,3,none⟩=some (.int .u64 mid)/\W.cell? ⟨w.heap.size,4,none⟩=some (.int .u64 mn)/\W.cell? ⟨w.heap.size,5,none⟩=some (.slice bj l.length dS):=λW hW=>by
  have e1:=aH (aQ.trans hW) h1;have e2:=aH hW aL;exact⟨⟨hW,hv.up (aQ.trans hW)⟩,(aoW e1 29).trans hdone,aoW e1 0,aoW e1 1,aoW e1 2,aoW e2 0,aoW e2 1,aoW e2 2,aoW e2 3,aoW e2 4,aoW e2 5⟩
 have cB:=aoU hcell;clear hcell aL iM gW hdone hok hf h1 h2 h3 h4 h5 h6 h7 hv hlen hid;go_enter func414,ntmps414
 go_wp2_with fail;generalize cM:w.alloc (.cells #[.int .i64 mk,.int .i64 mf,.int .i64 ca.at_,.int .u64 mid,.int .u64 mn,.slice bj l.length dS] 135)=wa at *;generalize eH:w.heap.size=br at *;apply V.fQ _ (by kernel_rfl) (by kernel_rfl) cB.out
 .intro aF aoX;iterate 5 (apply V.aj.ok;intros;go_simp;rfl;rfl;go_frame)
  iterate 1 (apply V.aj.eI (t:=10);intros;go_simp;rfl;rfl;intro;rfl;go_frame)
  apply V.aj.p7 (t:=10) (.bool true) [];rfl
  .intro vs;rfl
  .intro vs w1 hK hS _ K ah;go_simp;refine(lj.out _ hS.1.2).mono ?_;rintro e w2⟨rfl,aq⟩;exact ah.out _ aq
  simp only[au,Nat.reduceAdd];iterate 1 (apply V.aj.eI (t:=10);intros;go_simp;rfl;rfl;intro;rfl;go_frame)
  iterate 2 (apply V.aj.ok;intros;go_simp;rfl;rfl;go_frame)
  iterate 7 (apply V.aj.eI (t:=15);intros;go_simp;rfl;rfl;intro;rfl;go_frame)
  iterate 2 (apply V.aj.ok;intros;go_simp;rfl;rfl;go_frame)
  iterate 7 (apply V.aj.eI (t:=24);intros;go_simp;rfl;rfl;intro;rfl;go_frame)
  iterate 2 (apply V.aj.ok;intros;go_simp;rfl;rfl;go_frame)
  iterate 7 (apply V.aj.sL (t:=33) (y:=true);(· rfl);(· intro vs;rfl);(· rfl);simp only[au,Nat.reduceAdd])
  iterate 2 (apply V.aj.ok;intros;go_simp;rfl;rfl;go_frame)
  iterate 7 (apply V.aj.sL (t:=42) (y:=true);(· rfl);(· intro vs;rfl);(· rfl);simp only[au,Nat.reduceAdd])
  iterate 1 (apply V.aj.ok;intros;go_simp;rfl;rfl;go_frame)
  apply V.aj.fin [];intro vs w1 hK hS _;refine aoX.out _ _ ?_;clear aoX;obtain⟨⟨hu1,sj⟩,Gn,c0,c1,c2,d0,d1,d2,d3,d4,d5⟩:=hS;clear cB lj;go_wp2_with fail;go_ret;exact⟨rfl,aQ.trans hu1⟩
 .kernel_rfl
theorem aiC{B g:Nat}{ca:dT}{K X:aD}{w:World}(H:gJ B g ca K X w)(hf:ca.fin=none)(v:em)(hv:Rd w w.heap.size 5 v.A v.m.l.length (bl v.m.l))(hlen:v.m.l.length<=1500)(hok:gT v.m=true)(ht:v.m.t=ca.at_)(hid:v.m.id=ca.id)(hfn:v.m.f<ca.n)(hn:ca.n<=7)(kP:ca.cnt.getD v.m.f false=true):
 Calls prog 414 #[.pointer (some ⟨g,0,none⟩),.agg #[.int .i64 v.m.k,.int .i64 v.m.f,.int .i64 v.m.t,.int .u64 v.m.id,.int .u64 v.m.n,.slice v.A v.m.l.length v.c]] w λe w'=>e= .returned (.bool false)/\aoV w w':=by
 obtain⟨⟨mk,mf,mt,mid,mn,l⟩,bj,dS⟩:=v
 (try dsimp only at *)
 subst ht hid;obtain⟨G,gc,A,ac,gs,h1,h2,h3,h4,h5,h6,h7⟩:=H;have iM:=λW (hW:Rd W W.heap.size 5 bj l.length (bl l))=>zl (mk:Int) (mf:Int) (ca.at_:Int) ca.id mn bj l.length dS l W hW (by omega)
 have gW:pM (mk:Int) (mf:Int) (ca.at_:Int) ca.id mn l=true:=hok;rw[gW] at iM;have lj:=aoU iM;have aQ:aoV w (w.alloc (.cells #[.int .i64 mk,.int .i64 mf,.int .i64 ca.at_,.int .u64 ca.id,.int .u64 mn,.slice bj l.length dS] 135)):=(aoV.refl w).alloc _;have aL:=bp w (.cells #[.int .i64 mk,.int .i64 mf,.int .i64 ca.at_,.int .u64 ca.id,.int .u64 mn,.slice bj l.length dS] 135);have y1:decide (ca.n<=mf)=false:=by rw[iO];omega
 have lZ:decide ((ca.n:Int)<=(mf:Int))=false:=by rw[iO];omega
 have wT:¬(mf:Int)<0:=by omega
 have oe:(mf:Int)<7:=by omega
 have vk:((mf:Nat):Int).toNat=mf:=by omega
 have fK:(gI ca G gc A ac)[8+mf]?=some (.bool true):=by rw[Gm ca G gc A ac (by omega),kP]
 have hdone:(gI ca G gc A ac)[29]?=some (.bool false):=by simp[gI,lk,hf]
 have hcell:∀W,aoV (w.alloc (.cells #[.int .i64 mk,.int .i64 mf,.int .i64 ca.at_,.int .u64 ca.id,.int .u64 mn,.slice bj l.length dS] 135)) W->(aoV (w.alloc (.cells #[.int .i64 mk,.int .i64 mf,.int .i64 ca.at_,.int .u64 ca.id,.int .u64 mn,.slice bj l.length dS] 135)) W/\Rd W W.heap.size 5 bj l.length (bl l))/\W.cell? ⟨g,29,none⟩=some (.bool false)/\W.cell? ⟨g,0,none⟩=some (.int .i64 ca.n)/\W.cell? ⟨g,1,none⟩=some (.int .i64 ca.at_)/\W.cell? ⟨g,2,none⟩=some (.int .u64 ca.id)/\W.cell? ⟨g,8+mf,none⟩=some (.bool true)/\
  W.cell? ⟨w.heap.size,0,none⟩=some (.int .i64 mk)/\W.cell? ⟨w.heap.size,1,none⟩=some (.int .i64 mf)/\W.cell? ⟨w.heap.size,2,none⟩=some (.int .i64 ca.at_)/\W.cell? ⟨w.heap.size,3,none⟩=some (.int .u64 ca.id)/\W.cell? ⟨w.heap.size,4,none⟩=some (.int .u64 mn)/\W.cell? ⟨w.heap.size,5,none⟩=some (.slice bj l.length dS):=λW hW=>by
  have e1:=aH (aQ.trans hW) h1;have e2:=aH hW aL;exact⟨⟨hW,hv.up (aQ.trans hW)⟩,(aoW e1 29).trans hdone,aoW e1 0,aoW e1 1,aoW e1 2,(aoW e1 (8+mf)).trans fK,aoW e2 0,aoW e2 1,aoW e2 2,aoW e2 3,aoW e2 4,aoW e2 5⟩
 have cB:=aoU hcell;clear hcell aL iM gW hdone hok hf h1 h2 h3 h4 h5 h6 h7 hv hlen fK kP;go_enter func414,ntmps414
 go_wp2_with fail;generalize cM:w.alloc (.cells #[.int .i64 mk,.int .i64 mf,.int .i64 ca.at_,.int .u64 ca.id,.int .u64 mn,.slice bj l.length dS] 135)=wa at *;generalize eH:w.heap.size=br at *;apply V.fQ _ (by kernel_rfl) (by kernel_rfl) cB.out
 .intro aF aoX;iterate 5 (apply V.aj.ok;intros;go_simp;rfl;rfl;go_frame)
  iterate 1 (apply V.aj.eI (t:=10);intros;go_simp;rfl;rfl;intro;rfl;go_frame)
  apply V.aj.p7 (t:=10) (.bool true) [];rfl
  .intro vs;rfl
  .intro vs w1 hK hS _ K ah;go_simp;refine(lj.out _ hS.1.2).mono ?_;rintro e w2⟨rfl,aq⟩;exact ah.out _ aq
  simp only[au,Nat.reduceAdd];iterate 1 (apply V.aj.eI (t:=10);intros;go_simp;rfl;rfl;intro;rfl;go_frame)
  iterate 2 (apply V.aj.ok;intros;go_simp;rfl;rfl;go_frame)
  iterate 7 (apply V.aj.eI (t:=15);intros;go_simp;rfl;rfl;intro;rfl;go_frame)
  iterate 2 (apply V.aj.ok;intros;go_simp;rfl;rfl;go_frame)
  iterate 7 (apply V.aj.eI (t:=24);intros;go_simp;rfl;rfl;intro;rfl;go_frame)
  iterate 2 (apply V.aj.ok;intros;go_simp;rfl;rfl;go_frame)
  iterate 7 (apply V.aj.eI (t:=33);intros;go_simp;rfl;rfl;intro;rfl;go_frame)
  iterate 2 (apply V.aj.ok;intros;go_simp;rfl;rfl;go_frame)
  iterate 7 (apply V.aj.eI (t:=42);intros;go_simp;rfl;rfl;intro;rfl;go_frame)
  iterate 1 (apply V.aj.ok;intros;go_simp;rfl;rfl;go_frame)
  apply V.aj.fin [];intro vs w1 hK hS _;refine aoX.out _ _ ?_;clear aoX;obtain⟨⟨hu1,sj⟩,Gn,c0,c1,c2,uV,d0,d1,d2,d3,d4,d5⟩:=hS;clear cB lj;go_wp2_with fail;go_ret;exact⟨rfl,aQ.trans hu1⟩
 .kernel_rfl
theorem oP{x:aC}(hx:BL x)(b b2:Bool):zE (gB x b) (gB x b2):=by
 have st:AP (gB x b)=true:=by cases b;exact u0;exact X4 hx
 refine⟨st,λk hk=>?_⟩;cases b2 with
 |false=>exact absurd hk (Nat.not_lt_zero _)
 |true=>
  have ug:k=0:=by have:k<1:=hk;omega
  subst ug;show Jb (gB x b) x;intro _ _;cases b with
  |false=>
   have e:kD [] x=false:=by unfold kD;rfl
   refine⟨λh=>absurd (h.symm.trans e) (by decide),λ_=>⟨rfl,λy hy=>?_⟩⟩;have hy:y∈ [x]:=hy;rw[fi] at hy;rw[hy];exact eu hx
  |true=>
   have e:eY [x] x=0:=by simp[eY,List.findIdx_cons,NV hx]
   have e2:kD [x] x=true:=by unfold kD;rw[e];simp[D4 hx]
   refine⟨λ_=>?_,λh=>absurd (e2.symm.trans h) (by decide)⟩;show([x][eY [x] x]?).any (λy=>CJ x y)=false;rw[e];simp[D5 hx]
theorem T0{x:aC}(hx:BL x):∀(l:List (Nat×List aC)),(∀g∈l,g.1=0/\∃b,g.2=gB x b)->∃b,vT l=gB x b:=by
 intro l;have go:∀(l:List (Nat×List aC))(b0:Bool),(∀g∈l,g.1=0/\∃b,g.2=gB x b)->∃b,l.foldl (λout g=>jk out g.2) (gB x b0)=gB x b:=by
  intro l;induction l with
  |nil=>intro b0 _;exact⟨b0,rfl⟩
  |cons g r ih=>
   intro b0 h;obtain⟨-,b,hb⟩:=h g gN;rw[List.foldl_cons,hb,NW hx];exact ih _ (λy hy=>h y (kS _ hy))
 exact λh=>go l false h
theorem Od(x:aC)(b:Bool):(gB x b).length<=1:=by cases b <;>simp[gB]
theorem aiD{B g i:Nat}{ca:dT}{K X:aD}{w:World}(H:gJ B g ca K X w)(hA:cy K X w)(v:em)(df:Gk i ca v.m)(ht:v.m.t=i)(hv:Rd w w.heap.size 5 v.A v.m.l.length (bl v.m.l))(si:0<v.m.l.length->∀k,bW v.A k->¬X k)(hlen:v.m.l.length<=1000)(hok:gT v.m=true):
 Calls prog 414 #[.pointer (some ⟨g,0,none⟩),.agg #[.int .i64 v.m.k,.int .i64 v.m.f,.int .i64 v.m.t,.int .u64 v.m.id,.int .u64 v.m.n,.slice v.A v.m.l.length v.c]] w λe w'=>∃b,e= .returned (.bool b)/\∃K' X',gJ B g (gG ca v.m) K' X' w'/\aO K X w K' X' w'/\cy K' X' w':=by
 obtain⟨hf,hat,⟨hn,hfn⟩,⟨cn,hct,eG⟩,how,x,hx,hs,hg,fW,tK⟩:=df;have ht':v.m.t=ca.at_:=ht.trans hat.symm;have hpre:∀(l:List (Nat×List aC)),(∀g∈l,g.1=0/\∃b,g.2=gB x b)->l.length<=7->DP { ca with cW:=l } :=λl hl h7=>by
  refine⟨⟨0,λg hg=>(hl g hg).1⟩,λg hg=>?_,λk hk=>?_,?_,h7,hs⟩
  .obtain⟨-,b,hb⟩:=hl g hg;rw[hb];have:=Od x b;omega
  .obtain⟨b,hb⟩:=T0 hx (l.take k) (λg hg=>hl g (List.mem_of_mem_take hg));obtain⟨-,b2,ao0⟩:=hl l[k] (List.getElem_mem hk);have h1:=Od x b;refine⟨?_,?_⟩
   .show zE (vT (l.take k)) l[k].2;rw[hb,ao0];exact oP hx b b2
   .show(vT (l.take k)).length<=100000;rw[hb];omega
  .obtain⟨b,hb⟩:=T0 hx l hl;have h1:=Od x b;show(vT l).length<=100000;rw[hb];omega
 have same:gG ca v.m=ca->∀(e:Ending)(w':World),(e= .returned (.bool false)/\aoV w w')->∃b,e= .returned (.bool b)/\∃K' X',gJ B g (gG ca v.m) K' X' w'/\aO K X w K' X' w'/\cy K' X' w':=λhe e w' ⟨h1,h2⟩=>⟨false,h1,K,X,by rw[he];exact bH.call.up H hA h2,aO.up h2,hA.up h2⟩
 by_cases hid:v.m.id=ca.id
 .by_cases kP:ca.cnt.getD v.m.f false=true
  .refine(aiC H hf v hv (by omega) hok ht' hid hfn hn kP).mono (same ?_);unfold gG rX;rw[kP];simp
  .have Oe:ca.cnt.getD v.m.f false=false:=by simpa using kP
   have hh:rX ca v.m=true:=by
    unfold rX;rw[hf,hok,Oe];simp[ht',hid,hfn]
   have how':(ca.c.kind=3/\v.m.k=4\/ca.c.kind≠3/\v.m.k=1)\/(ca.c.kind≠3/\v.m.k=2)\/(ca.c.kind=3/\v.m.k=5):=by
    rcases how with h|h|h
    .exact absurd hid h
    .exact absurd h kP
    .exact h
   rcases how' with h|h|h
   .refine(ais H hA hf v hv (by omega) hok ht' hid hfn hn Oe h).mono (same ?_);unfold gG;rw[if_neg (by rw[hh];decide),if_neg (by omega),if_neg (by omega),if_pos (by omega)]
   .refine(ait H hA hf v hv (by omega) hok ht' hid hfn hn Oe h.1 h.2 cn hct (hpre ca.cW hg (by omega))).mono ?_;rintro e w'⟨rfl,K',X',h1,h2,h3⟩;refine⟨true,rfl,K',X',?_,h2,h3⟩;have e:gG ca v.m=pN ca v.m.f:=by
     unfold gG;rw[if_neg (by rw[hh];decide),if_neg (by omega),if_neg (by omega),if_neg (by omega)]
    rw[e];exact h1
   .obtain⟨h50,kB,md⟩:=tK h.2;refine(aiy H hA hf v hv si (by omega) hok ht' hid hfn hn Oe h.1 h.2 cn hct eG (hpre _ (λy hy=>?_) (by rw[dG,List.length_singleton];omega))).mono ?_
    .rcases List.mem_append.1 hy with hy|hy
     .exact hg y hy
     .rw[fi] at hy;rw[hy];exact⟨h50,kB,md⟩
    rintro e w'⟨rfl,K',X',h1,h2,h3⟩;refine⟨true,rfl,K',X',?_,h2,h3⟩;have e:gG ca v.m=pN { ca with cW:=ca.cW++[(v.m.n,v.m.l)] } v.m.f:=by
     unfold gG;rw[if_neg (by rw[hh];decide),if_neg (by omega),if_pos h]
    rw[e];exact h1
 .refine(aiB H hf v hv (by omega) hok ht' hid).mono (same ?_);unfold gG rX;simp[hid]
end
section
open Go.RowKit Go.Maps
theorem ajM{B:Nat}{p:Sp}{d:bA}{D D':aV}{K:aD}{w:World}(H:eS B p d D K w)(hK:∀k,ek p d k->¬K k)(ig:∀k,K k->k<w.heap.size)(h0:d.nb=0)(hok:dx D)(cn:D.calls<=1000000000)(x:aC)(hx:okB x=true)(hpre:zE d.bI [x])(pF:d.bI.length<=1500)(hl2:(jk d.bI [x]).length<=1500)(hD:ia D dK (fh [x])=(D',0))(hb:lh [x]=0)(yo:d.am.length<=1000000)(A:Option Addr)(c:Nat)(hr:Rd w w.heap.size 5 A 1 (bl [x]))(B5:∀k,bW A k->¬ek p d k):
 Calls prog 130 #[.pointer (some ⟨p.gs,0,none⟩),.slice A 1 c] w λe w'=>e= .returned (.int .i64 0)/\∃h' S' oF,eS B { p with h:=h',S:=S',sc:=oF } { d with bI:=jk d.bI [x],am:=d.am++fh [x],nb:=1 } D' (λk=>K k\/bg S' k) w'/\V.af (ek p d) w w'/\(∀k,aJ h' k->aJ p.h k\/w.heap.size<=k)/\h'.g=p.h.g/\(∀k,bg S' k->w.heap.size<=k/\∃cs z,w'.heap[k]?=some (.cells cs 37 z))/\h'.nb=p.h.nb/\h'.lb=p.h.lb:=by
 obtain⟨c0,c1,c2,c3,c5,zF⟩:=H.cells;have hall: [x].all okB=true:=by simp[hx]
 have B6:=aoU (LV A 1 c [x] w hr (by omega));have k6:=aoU hall;have uA:=aoU (λW (hu:aoV w W)=>FH p.S d.bI.length p.sc d.bI A 1 c [x] W (H.im.rd.up hu) (hr.up hu) (by omega) (by omega) H.cp hpre);have hps:Mh D dK d.am.length d.nb [x]=(0,D',d.am.length+(fh [x]).length,d.nb+1):=by
  unfold Mh;rw[if_neg (by omega),hD];rfl
 have EY:=aoU hps;have I7:=aoU (λW (hu:aoV w W) (hA:∀k,K k->k<w.heap.size)=>abd (H.up hA hu).dk (H.up hA hu).am (H.up hA hu).nf.2.2 hok cn (by decide) (by omega) (by omega) A 1 c [x] (hr.up hu) (by omega));have pY:∀k,ek p d k->k<w.heap.size:=λk hk=>(H.lt hk).2
 have dr:=aoU H;have yX:=aoU hl2;have H0:=aoU h0;have ew:=aoU hx;clear H hall hpre hps hl2 h0 hx hok cn hD hb;go_enter func130,ntmps130
 go_wp2_with fail;refine B6.out.mono ?_;rintro e w1⟨rfl,hu1⟩;rw[k6.out];obtain⟨TM,c1',TN,ajN,ajO,ajP⟩:=(dr.out.up ig hu1).cells;clear c0 c1 c2 c3 c5 zF B6 k6;go_wp2_with fail;refine(uA.out w1 hu1).mono ?_;rintro e w2⟨S',m,rfl,⟨rc,Oz⟩,aq⟩;have fL:=hu1.trans aq;have hm:=Oz.len;have ajQ:m<=1500:=by rw[hm];exact yX.out
 have y1:decide ((1500:Int)<(m:Int))=false:=by rw[iO];omega
 have UE:=aoU hm;have KD:=dr.out.up ig fL;obtain⟨c0,c1,c2,c3,c5,zF⟩:=KD.cells;clear hm TM c1' TN ajN ajO ajP uA;go_wp2_with fail;refine(I7.out w2 fL ig).mono ?_;rintro e w3⟨h',he,iJ,zQ,ht,hnm⟩;have Ij:=aoU hnm;clear hnm;rw[EY.out] at he iJ zQ;dsimp only at he iJ zQ;subst he;rw[show(((0:Nat):Int))=0 from rfl];have hM2:=KD.ao H0.out;have y3:qA B p.dX p.dy p.bO p.cf w3:=by
  have q:∀k,Di p k->¬(aJ p.h k\/k=p.gl):=λk hk h=>h.elim (KD.Fm hM2 hk).1 (KD.Fm hM2 hk).2.2.2
  exact hM2.keep ht.kept ⟨q _ (.inl rfl),q _ (.inr (.inl rfl)),q _ (.inr (.inr (.inl rfl))),q _ (.inr (.inr (.inr rfl)))⟩
 have UF:eS B { p with h:=h' } { d with am:=d.am++fh [x],nb:=d.nb+1 } D' K w3:=
  KD.ML hK ht iJ (by rw[ht.g];dsimp only;rw[dG];exact zQ) rfl rfl rfl (λh=>by dsimp only at h;omega)
 obtain⟨g0,g1,g2,g3,g5,g10⟩:=UF.cells;have pE:Rd w3 w3.heap.size 5 A 1 (bl [x]):=(hr.up fL).kt (aZ _) (λa ha h=>h.elim (λh=>B5 _ ⟨a,ha,rfl⟩ (.inl h)) (λh=>B5 _ ⟨a,ha,rfl⟩ (.inr (.inr (.inr (.inl h)))))) ht.kept;have OA:=aoU (ajL x ew.out A c w3 y3 pE);have OB:∀k,bg S' k->w.heap.size<=k/\k<w2.heap.size:=λk hk=>by
  obtain⟨a,rfl,rfl⟩:=hk;have:=jO Oz a.block rfl;have:=hu1.size;omega
 have oU:=iC Oz ht.kept (λk hk h=>by
  have h1:=OB k hk;rcases h with h|h
  .have:=pY k (.inl h);omega
  .have:=pY k (.inr (.inr (.inr (.inl h))));omega)
 clear c0 c1 c2 c3 c5 zF hr iJ zQ Oz I7;go_wp2_with fail;refine OA.out.mono ?_;rintro e w4⟨rfl,Iz⟩;have UG:V.af (Di p) w3 w4:=Iz;have ajR:∀k,Di p k->k<w.heap.size:=λk hk=>pY k (.inr (.inr (.inr (.inr ⟨H0.out,hk⟩))))
 have Eb:eS B { p with h:=h' } { d with am:=d.am++fh [x],nb:=d.nb+1 } D' K w4:=by
  refine UF.keep UG (λk hk h=>?_) (λk hk h=>hK k (.inr (.inr (.inr (.inr ⟨H0.out,h⟩)))) hk);have hn:=UF.Fm (p:= { p with h:=h' }) y3 h;rcases hk with hk|hk|hk|hk|⟨hz,-⟩
  .exact hn.1 hk
  .exact hn.2.1 hk
  .exact hn.2.2.1 hk
  .exact hn.2.2.2 hk
  .dsimp only at hz;omega
 have ui:=iC oU UG (λk hk h=>by have h1:=OB k hk;have h2:=ajR k h;omega);clear g0 g1 g2 g3 g5 g10 OA Iz;go_wp2_with fail;refine(ZD p.gs _ w4 Eb.st (.slice p.S d.bI.length p.sc) (d.bI.length:Int) rfl rfl S' m m).mono ?_;rintro e ai⟨rfl,md,tT⟩;have rA:=aoU md;clear md;go_wp2_with fail;go_ret;have Ju:p.gs<w.heap.size:=pY _ (.inr (.inl rfl));have rT:=iC ui tT (λk hk h=>by have e:k=p.gs:=h;have h1:=OB k hk;omega);obtain⟨n1,n2,n3⟩:=Eb.nf;obtain⟨m1,m2,m3⟩:=Eb.ne
 refine⟨rfl,h',S',m,⟨?_,?_,?_,?_,λhz=>absurd (show(1:Nat)=0 from hz) (by decide),?_,Eb.bs,by rw[<- UE.out];exact aZ _⟩,?_,λk hk=>(ht.aJ k hk).imp id (λh=>by have:=fL.size;omega),ht.g,λk hk=>⟨(OB k hk).1,iL rT hk⟩,Ij.out.1,Ij.out.2⟩
 .exact Eb.dk.kt tT (λk hk h=>by have e:k=p.gs:=h;subst e;exact n1 hk)
 .have e:Dh { p with h:=h',S:=S',sc:=m } { d with bI:=jk d.bI [x],am:=d.am++fh [x],nb:=1 } =((Dh { p with h:=h' } { d with am:=d.am++fh [x],nb:=d.nb+1 }).setIfInBounds 5 (.slice S' m m)).setIfInBounds 6 (.int .i64 m):=by
   unfold Dh;dsimp only;rw[<- UE.out];simp
  show ai.heap[p.gs]?=_;rw[e];exact rA.out
 .exact cL tT Eb.mn (λh=>m1 (by have e:p.aT=p.gs:=h;exact e.symm))
 .have:=Eb.am;rw[H0.out] at this;exact this.keeps tT (λh=>m2 (by have e:p.gl=p.gs:=h;exact e.symm))
 .dsimp only;rw[<- UE.out];exact⟨Rd.own rT,λ_ a ha=> .inr ⟨a,ha,rfl⟩⟩
 .refine ci (V.af.co fL) (ci (eQ ht.kept (λk h=>?_)) (ci (eQ UG (λk h=>?_)) (eQ tT (λk h=>?_))))
  .rcases h with h|h
   .exact .inl h
   .exact .inr (.inr (.inr (.inl h)))
  .exact .inr (.inr (.inr (.inr ⟨H0.out,h⟩)))
  .exact .inr (.inl h)
end
section
open Go.RowKit Go.Maps Go.Shelf
attribute [local go_sem] Oper.semAt_some
theorem ajS(A:Option Addr)(n c:Nat)(l:List aC)(A':Option Addr)(n' c':Nat)(l':List aC)(w:World)(hr:Rd w w.heap.size 5 A n (bl l))(hr':Rd w w.heap.size 5 A' n' (bl l'))(hn:n<=1099511627776)(hn':n'<=1099511627776):
 Calls prog 128 #[.slice A n c,.slice A' n' c'] w λe w'=>e= .returned (.bool (decide (l=l')))/\aoV w w':=by
 have ft:=aoU (apS A n c l A' n' c' l' w hr hr' hn hn');obtain⟨b,hb⟩:=bB (decide (l=l'))
 rw[<- hb] at ft|-;clear hr hr' hn hn' hb;go_enter func128,ntmps128
 go_wp2_with fail;refine ft.out.mono ?_;rintro e w1⟨rfl,hu⟩;go_wp2_with fail;go_ret;exact⟨rfl,hu⟩
theorem ajT(gs:Nat)(A:Option Addr)(c:Nat)(w:World)(h:w.cell? ⟨gs,10,none⟩=some (.bool false)):Calls prog 130 #[.pointer (some ⟨gs,0,none⟩),.slice A 0 c] w λe w'=>e= .returned (.int .i64 1)/\w'=w:=by
 go_enter func130,ntmps130
 go_wp2_with fail;go_ret;exact⟨rfl,rfl⟩
theorem bn{B:Nat}{p:Sp}{d:bA}{D:aV}{K:aD}{W:World}(H:eS B p d D K W)(h1:d.nb≠0){r:Nat}(hr:∃o:Obj,W.heap[r]?=some o/\o.isCells=false)(hn:r≠p.h.nb)(hl:r≠p.h.lb){k:Nat}(hk:ek p d k):k≠r:=by
 rintro rfl;obtain⟨ob,ho,hc⟩:=hr;have no:∀cs t z,W.heap[k]?=some (.cells cs t z)->False:=λcs t z h=>by rw[ho] at h;injection h with h;rw[h] at hc;cases hc
 have row:∀{B n c sz:Nat}{t:TypeId}{A:Option Addr}{xs:List Value},W.ownsRow B t sz (.slice A n c) n xs->bW A k->False:=λh hk=>by
  obtain⟨cs,z,h2⟩:=iL h hk;exact no _ _ _ h2
 rcases hk with hk|rfl|rfl|rfl|⟨hz,-⟩
 .rcases hk with rfl|rfl|rfl|hk|hk|⟨f,hf,hk⟩
  .exact no _ _ _ H.dk.hd
  .exact hn rfl
  .exact hl rfl
  .exact row H.dk.files hk
  .exact row H.dk.turns hk
  .obtain⟨i,hi,rfl⟩:=List.getElem_of_mem hf;have hfl:=H.dk.ly;have hF:=H.dk.each i p.h.aM[i] (D.files[i]'(by omega)) (dh hi) (dh (by omega));rcases hk with rfl|hk
   .exact no _ _ _ hF.blk
   .exact row hF.own hk
 .exact no _ _ _ H.st
 .exact no _ _ _ H.mn
 .exact no _ _ _ (show W.heap[p.gl]?=some (.cells _ _ _) from H.am)
 .exact h1 hz
def OC(B:Nat)(p:Sp)(d:bA)(D':aV)(K:aD)(x:aC)(w w4 W:World):Prop:=
 ∃h' S' oF,eS B { p with h:=h',S:=S',sc:=oF } { d with bI:=jk d.bI [x],am:=d.am++fh [x],nb:=1 } D' (λk=>K k\/bg S' k) W/\V.af (ek p d) w4 W/\(∀k,aJ h' k->aJ p.h k\/w.heap.size<=k)/\h'.g=p.h.g/\(∀k,bg S' k->w.heap.size<=k/\∃cs z,W.heap[k]?=some (.cells cs 37 z))/\h'.nb=p.h.nb/\h'.lb=p.h.lb
theorem OC.grow{B:Nat}{p:Sp}{d:bA}{D':aV}{K:aD}{x:aC}{w w4 W W':World}{row:Option Nat}(h:OC B p d D' K x w w4 W)(hg:W.grownBy W' row)(hrw:∀r,row=some r->w4.heap.size<=r/\∃o:Obj,W.heap[r]?=some o/\o.isCells=false)(o4:∀k,ek p d k->k<w4.heap.size)(ig:∀k,K k->k<w4.heap.size):OC B p d D' K x w w4 W':=by
 obtain⟨h',S',oF,H,hk,hf,he,hS,n1,n2⟩:=h;have hK:V.af (λk=>row=some k) W W':=⟨hg.os,hg.tape,hg.output,hg.size,λk hk hn=>hg.block k hk (λe=>hn e.symm)⟩
 have L0:∀k,bg S' k->¬row=some k:=λk hk e=>by
  obtain⟨-,cs,z,hc⟩:=hS k hk;obtain⟨-,ob,ho,hb⟩:=hrw k e;rw[hc] at ho;injection ho with ho;rw[<- ho] at hb;cases hb
 refine⟨h',S',oF,H.keep hK (λk hk e=>?_) (λk hk e=>?_),?_,hf,he,λk hk=>⟨(hS k hk).1,?_⟩,n1,n2⟩
 .obtain⟨kz,il⟩:=hrw k e;refine bn H (show(1:Nat)≠0 by decide) il (λe2=>?_) (λe2=>?_) hk rfl
  .have:=o4 p.h.nb (.inl (.inr (.inl rfl)));have bG:k=h'.nb:=e2;omega
  .have:=o4 p.h.lb (.inl (.inr (.inr (.inl rfl))));have bG:k=h'.lb:=e2;omega
 .rcases hk with hk|hk
  .have:=ig k hk;have:=(hrw k e).1;omega
  .exact L0 k hk e
 .refine⟨hg.os.trans hk.os,hg.tape.trans hk.tape,hg.output.trans hk.output,bQ hk.size hg.size,λk bS hn=>?_⟩;rw[<- hk.block k bS hn];exact hg.block k (cg bS hk.size) (λe=>by have:=(hrw k e.symm).1;omega)
 .obtain⟨-,cs,z,hc⟩:=hS k hk;exact⟨cs,z,cL hK hc (L0 k hk)⟩
theorem ajU{B gn:Nat}{p:Sp}{d:bA}{D D' eN:aV}{K:aD}{w:World}{nr:Array Value}(hnb:w.heap[gn]?=some (.cells nr 153 (0,0)))(fj:nr[1]?=some (.pointer (some ⟨p.gs,0,none⟩)))(Ec:¬ek p d gn)(H:eS B p d D K w)(hK:∀k,ek p d k->¬K k)(ig:∀k,K k->k<w.heap.size)(h0:d.nb=0)(hok:dx D)(cn:D.calls<=100000000)(x:aC)(hx:okB x=true)(hpre:zE d.bI [x])(hne:d.bI≠jk d.bI [x])(pF:d.bI.length<=1500)(hl2:(jk d.bI [x]).length<=1500)(hD:ia D dK (fh [x])=(D',0))(ry:ld D' dK=(eN,0))(gW:dx D')(vz:D'.calls<=1000000000)(hb:lh [x]=0)(yo:d.am.length<=1000000)(b o c:Nat)(hc1:1<=c)(hr:Rd w w.heap.size 5 (some ⟨b,o,none⟩) 1 (bl [x]))(B5:¬ek p d b):
 Calls prog 80 #[.pointer (some ⟨gn,0,none⟩),.slice (some ⟨b,o,none⟩) 1 c] w λe w'=>e= .returned (.bool true)/\∃h' S' oF,eS B { p with h:=h',S:=S',sc:=oF } { d with bI:=jk d.bI [x],am:=d.am++fh [x],nb:=1 } eN (λk=>K k\/bg S' k) w'/\V.af (ek p d) w w'/\(∀k,aJ h' k->aJ p.h k\/w.heap.size<=k)/\h'.g=p.h.g/\(∀k,bg S' k->w.heap.size<=k/\k<w'.heap.size/\∃cs z,w'.heap[k]?=some (.cells cs 37 z)):=by
 obtain⟨wb,cN⟩:=bB ((w.alloc (.cells #[.pointer (some ⟨gn,0,none⟩)] 62)).alloc (.cells #[.bool false] 4))
 have aX:aoV w wb:=by rw[cN];exact((aoV.refl w).alloc _).alloc _
 have mC:wb.heap[w.heap.size]?=some (.cells #[.pointer (some ⟨gn,0,none⟩)] 62 (0,0)):=by rw[cN];exact aH ((aoV.refl _).alloc _) (bp w _)
 have A9:wb.heap[w.heap.size+1]?=some (.cells #[.bool false] 4 (0,0)):=by
  rw[cN];have:=bp (w.alloc (.cells #[.pointer (some ⟨gn,0,none⟩)] 62)) (.cells #[.bool false] 4)
  rwa[fF] at this
 have c1:=(aoW (aH aX hnb) 1).trans fj;rw[cN] at c1;have hG:=aoU (adM (H.up ig aX) (by omega));have uA:=aoU (λW (hu:aoV w W)=>FH p.S d.bI.length p.sc d.bI (some ⟨b,o,none⟩) 1 c [x] W (H.im.rd.up hu) (hr.up hu) (by omega) (by omega) H.cp hpre);have G9:=aoU (λW (R:Option Addr) (rc:Nat) (hR:Rd W W.heap.size 5 R d.bI.length (bl d.bI)) (hrc:d.bI.length<=rc) (hu:aoV w W)=>FH R d.bI.length rc d.bI (some ⟨b,o,none⟩) 1 c [x] W hR (hr.up hu) (by omega) (by omega) hrc hpre);have hdf:decide (d.bI=jk d.bI [x])=false:=decide_eq_false hne
 have My:=aoU hdf;have iD:=aoU cN;have OA:=aoU (λW (hu:aoV w W) (A:Option Addr) (c:Nat) (hr:Rd W W.heap.size 5 A 1 (bl [x])) (B5:∀k,bW A k->¬ek p d k)=>ajM (H.up ig hu) hK (λk hk=>cg (ig k hk) hu.size) h0 hok (by omega) x hx hpre pF hl2 hD hb yo A c hr B5);have pY:∀k,ek p d k->k<w.heap.size:=λk hk=>(H.lt hk).2
 have dr:=aoU H;clear cN H hne hdf hD hb hx h0 hok cn;refine(callsIn_wide (n:=3)).1 ?_;refine callsIn_of_wp_marks func80 rfl trivial ?_ rfl;simp only[ntmps80,List.size_toArray,iu,List.length_nil,Nat.reduceAdd,Nat.reduceSub,Array.replicate_succ,Array.replicate_zero,List.push_toArray,List.append_toArray,gY,List.cons_append]
 gi_wp2
 rw[<- iD.out];refine⟨trivial,?_⟩;refine(callsIn_wide.2 hG.out).mono ?_;rintro e w1⟨R,rc,rfl,ho,hu1⟩
 gi_wp2
 refine⟨trivial,?_⟩;refine(callsIn_wide.2 (G9.out w1 R rc (Rd.own ho) (sH ho) (aX.trans hu1))).mono ?_;rintro e w2⟨J,m,rfl,⟨fA,UH⟩,aq⟩;have ajQ:m<=1500:=by have:=UH.len;omega
 gi_wp2
 refine⟨trivial,?_⟩;refine(callsIn_wide.2 (ajS R d.bI.length rc d.bI J m m (jk d.bI [x]) w2 ((Rd.own ho).up aq) (Rd.own UH) (by omega) (by omega))).mono ?_;rintro e w3⟨rfl,bV⟩;rw[My.out];clear ho UH
 gi_wp2
 refine⟨trivial,?_⟩;refine(callsIn_wide.2 (adz (some ⟨b,o,none⟩) 1 c 1000 (by omega) w3)).mono ?_;rintro e w4⟨rfl,h4⟩;have uH:aoV w3 w4:=by rw[h4];exact((aoV.refl _).alloc _).alloc _
 have FD:w4.cell? ⟨w3.heap.size,0,none⟩=some (.slice (some ⟨b,o,none⟩) 1 c):=by
  rw[h4];exact((Boxed.new w3 30 (.slice (some ⟨b,o,none⟩) 1 c)).alloc _).cell
 have FE:w4.cell? ⟨w3.heap.size+1,0,none⟩=some (.int .i64 ((1000:Nat):Int)):=by
  rw[h4];have h:=Boxed.new (w3.alloc (.cells #[.slice (some ⟨b,o,none⟩) 1 c] 30)) 3 (.int .i64 ((1000:Nat):Int));rw[fF] at h;exact h.cell
 have Ex:w3.heap.size<w4.heap.size/\w3.heap.size+1<w4.heap.size:=by rw[h4,fF,fF];omega
 have mS:aoV w w4:=(((aX.trans hu1).trans aq).trans bV).trans uH;have q7:aoV wb w4:=((hu1.trans aq).trans bV).trans uH;have we:=aH q7 mC;have KE:=aH q7 A9;have hs0:w.heap.size<=w3.heap.size:=(((aX.trans hu1).trans aq).trans bV).size;clear h4 hu1 aq bV uH mC A9 c1 hG uA G9 My iD;generalize w3.heap.size=Bs at *
 gi_wp2
 have OD:∀k,ek p d k->k<w4.heap.size:=λk hk=>cg (pY k hk) mS.size
 have qp:∀k,K k->k<w4.heap.size:=λk hk=>cg (ig k hk) mS.size
 refine wpIn_rangeFunc_ownG rfl (by omega) (gf:=194) (lb:= #[.pointer (some ⟨Bs,0,none⟩),.pointer (some ⟨Bs+1,0,none⟩)]) rfl trivial (enters_of func194 (by kernel_rfl) rfl)
  (adC (3-1) (by omega) Bs (Bs+1) b o 1 c 1000 (by omega) (by omega) (by omega) hc1 w4 FD FE) (λh k=>h.trans k)
  (λW l o o' hl h _ _=>⟨by simp,World.putObj_heap_other (by omega),World.putObj_heap_other (by omega)⟩) (Below.refl _ _) (λ_=>rfl)
  (λpre W=>oB Bs (Bs+1) w4 W/\(pre= []->Below w4.heap.size w4 W)/\(pre≠ []->OC B p d D' K x w w4 W))
  (λ_ pre _=>∃y:Nat×Nat,pre= [y]/\min y.2 (1-min y.1 1)=0)
  ?hown
  (λ_ _ _ _ _ hs _ _=>hs)
  ⟨oB.refl _ _ _,λ_=>Below.refl _ _,λh=>absurd rfl h⟩
  (λy=> { tmps:= #[.pointer (some ⟨gn,0,none⟩),.slice (some ⟨b,o,none⟩) 1 c,.pointer (some ⟨w.heap.size,0,none⟩),undef,.pointer (some ⟨w.heap.size+1,0,none⟩),.slice R d.bI.length rc,Bn b o 1 y,.pointer (some ⟨gn,0,none⟩),.pointer (some ⟨gn,0,none⟩),.pointer (some ⟨gn,1,none⟩),.pointer (some ⟨p.gs,0,none⟩),.slice R d.bI.length rc,.slice R d.bI.length rc,.slice R d.bI.length rc,.slice (some ⟨b,o,none⟩) 1 c,.slice J m m,.bool false,.bool true,.slice (some ⟨b,o,none⟩) 1 c,.func (.func 194) #[] #[.pointer (some ⟨Bs,0,none⟩),.pointer (some ⟨Bs+1,0,none⟩)],Bn b o 1 y,undef,undef,undef,undef,undef,undef,undef,undef,undef,undef,undef,undef,undef],defers:= [] }) ?assign ?body ?done ?stop
 case hown=>
  rintro pre W W' row⟨hk,B8,Ed⟩ hg hrw;have g1:(some Bs)≠row:=λe=>by have:=(hrw _ e.symm).1;omega
  have g2:(some (Bs+1))≠row:=λe=>by have:=(hrw _ e.symm).1;omega
  exact⟨hk.trans ⟨hg.size,hg.block _ (by have:=hk.1;omega) g1,hg.block _ (by have:=hk.1;omega) g2⟩,λe=>(B8 e).grown hg (B8 e).size (λk e=>(hrw k e).1),λe=>(Ed e).grow hg hrw OD qp⟩
 case assign=>
  intro l y W aoe ajV
  gi_wp2
  exact ajV
 case body=>
  rintro l' pre y W⟨hk,B8,Ed⟩ hlen;have ajW:pre= []:=List.eq_nil_of_length_eq_zero (by have:zD 1000 1=1:=rfl;omega);subst ajW;have KF:aoV w4 W:=B8 rfl;have GC:aoV w W:=mS.trans KF;have cb:=aoW (aH KF we) 0;have c1:=(aoW (aH GC hnb) 1).trans fj;have zF:=((dr.out.up ig GC).cells).2.2.2.2.2;obtain⟨e0,EZ⟩:=bB (min y.2 (1-min y.1 1))
  have hpv:Bn b o 1 y= .slice (some ⟨b,o+min y.1 1*5,none⟩) e0 e0:=by unfold Bn;rw[<- EZ]
  rw[hpv];have ze:=aoU EZ;clear EZ;by_cases hz:e0=0
  .subst hz;generalize o+min y.1 1*5=o2 at *;clear hpv B8 Ed;have ajX:=aoW (aH KF KE) 0;have ajY:=ay (aH KF KE) 0
   gi_wp2
   refine⟨trivial,CallsIn.inRound l' (callsIn_wide.2 ((ajT p.gs _ 0 W zF).mono ?_))⟩;rintro e ai⟨rfl,rfl⟩
   gi_wp2
   have hks:V.af (λz=>z=w.heap.size+1) ai (ai.setCell ⟨w.heap.size+1,0,none⟩ (.bool false)):=aoZ _ _ (w.heap.size+1) 0 _ (V.af.refl _ _);have hlb:w.heap.size+1<w4.heap.size:=aB KE;exact⟨⟨hks.size,λk ob hB OE _=>(hks.block k (aB OE) (by show¬k=w.heap.size+1;omega)).trans OE⟩,y,rfl,ze.out.symm⟩
  .have hmin:min y.1 1=0:=by have:=ze.out;omega
   have Bo:e0=1:=by have:=ze.out;omega
   have rT:o+min y.1 1*5=o:=by rw[hmin];omega
   have EC:=aoU Bo;rw[rT,Bo];clear hpv B8 Ed hz hmin Bo rT
   gi_wp2
   refine⟨trivial,CallsIn.inRound l' (callsIn_wide.2 ((OA.out W GC (some ⟨b,o,none⟩) 1 (hr.up GC) (λk hk=>by obtain⟨a,ha,rfl⟩:=hk;injection ha with ha;subst ha;exact B5)).mono ?_))⟩;rintro e ai⟨rfl,h',S',oF,H',hk',hf',he',xJ,S6,gv⟩
   gi_wp2
   have hin:∀k,w4.heap.size<=k->¬ek p d k:=λk h1 h2=>by have:=OD k h2;omega
   have Ad:∀k,w.heap.size<=k->¬ek p d k:=λk h1 h2=>by have:=pY k h2;omega
   refine⟨⟨hk'.size,λk ob hB OE _=>cL hk' OE (hin k hB)⟩,⟨hk'.size,hk'.block _ (by have:=hk.1;omega) (Ad _ hs0),hk'.block _ (by have:=hk.1;omega) (Ad _ (by omega))⟩,hk.trans ⟨hk'.size,hk'.block _ (by have:=hk.1;omega) (Ad _ hs0),hk'.block _ (by have:=hk.1;omega) (Ad _ (by omega))⟩,λe=>by simp at e,λ_=>⟨h',S',oF,H',ci (V.af.co KF) hk',λk h=>(hf' k h).imp id (λh=>by have:=GC.size;omega),he',λk h=>⟨by have:=(xJ k h).1;have:=GC.size;omega,(xJ k h).2⟩,S6,gv⟩⟩
 case done=>
  rintro mI ys W hU hys⟨hk,B8,Ed⟩ KG;obtain⟨h',S',oF,H',hk',hf',he',xJ,S6,gv⟩:=Ed (by rw[hys];decide);have Ad:∀k,w.heap.size<=k->¬ek p d k:=λk h1 h2=>by have:=pY k h2;omega
  have cb:=aoW (cL hk' we (Ad _ (aZ _))) 0;have c1:=(aoW (cL hk' (aH mS hnb) Ec) 1).trans fj;have ajZ:=aoU (adO H' (λk h1 h2=>by
   rcases h2 with h2|h2
   .rcases h1 with h1|h1|h1|h1|⟨hz,-⟩
    .rcases hf' k h1 with h3|h3
     .exact hK k (.inl h3) h2
     .have:=ig k h2;omega
    .exact hK k (.inr (.inl h1)) h2
    .exact hK k (.inr (.inr (.inl h1))) h2
    .exact hK k (.inr (.inr (.inr (.inl h1)))) h2
    .exact absurd (show(1:Nat)=0 from hz) (by decide)
   .obtain⟨h3,cs,z,h4⟩:=xJ k h2;rcases h1 with h1|h1|h1|h1|⟨hz,-⟩
    .exact(H'.dk.nf h4 (by decide) (by decide) (by decide) (by decide) (by decide)) h1
    .have:=pY k (.inr (.inl h1));omega
    .have:=pY k (.inr (.inr (.inl h1)));omega
    .have:=pY k (.inr (.inr (.inr (.inl h1))));omega
    .exact absurd (show(1:Nat)=0 from hz) (by decide)) gW vz ry)
  have UI:=cL hk' KE (Ad _ (Nat.le_succ _));have UJ:∀k,ek { p with h:=h',S:=S',sc:=oF } { d with bI:=jk d.bI [x],am:=d.am++fh [x],nb:=1 } k->k≠mI:=λk hk2=>by
   refine bn H' (show(1:Nat)≠0 by decide) ⟨_,KG,rfl⟩ (λe=>?_) (λe=>?_) hk2
   .have:=OD p.h.nb (.inl (.inr (.inl rfl)));have bG:mI=h'.nb:=e;omega
   .have:=OD p.h.lb (.inl (.inr (.inr (.inl rfl))));have bG:mI=h'.lb:=e;omega
  clear B8 Ed hys
  gi_wp2
  refine⟨trivial,?_⟩;refine(callsIn_wide.2 ajZ.out).mono ?_;rintro e cH⟨rfl,h6,rO,nx,I3,fW⟩;have aj0:=cL nx KG (λh=>h.elim (λh=>UJ mI (.inl h) rfl) (λh=>UJ mI (.inr (.inr (.inr (.inl h)))) rfl));have apC:=cL nx UI (λh=>h.elim (λh=>by
   rcases hf' _ h with h3|h3
   .exact Ad _ (Nat.le_succ _) (.inl h3)
   .exact H'.dk.nf UI (by decide) (by decide) (by decide) (by decide) (by decide) h) (λh=>Ad _ (Nat.le_succ _) (.inr (.inr (.inr (.inl h))))))
  have ajX:=aoW apC 0;have ajY:=ay apC 0
  gi_wp2
  have aj1:=bM cH (w.heap.size+1) 0 (.bool true) _ _ apC;have yD:V.af (λz=>z=w.heap.size+1) cH (cH.setCell ⟨w.heap.size+1,0,none⟩ (.bool true)):=aoZ _ _ (w.heap.size+1) 0 _ (V.af.refl _ _);have hlb:w.heap.size+1<w4.heap.size:=aB KE;have aj2:=cL yD aj0 (by show¬mI=w.heap.size+1;omega);generalize cH.setCell ⟨w.heap.size+1,0,none⟩ (.bool true)=w7 at *;refine⟨by simp,.inl ⟨_,_,rfl,run_takeDeferred aj2,?_⟩⟩
  have HA:(w7.putObj mI (Obj.deferred none)).cell? ⟨w.heap.size+1,0,none⟩=some (.bool true):=(mv (a:=⟨w.heap.size+1,0,none⟩) (World.putObj_heap_other (by show w.heap.size+1≠mI;omega))).trans (aoW aj1 0);have xY:V.af (λz=>z=mI) w7 (w7.putObj mI (Obj.deferred none)):=⟨rfl,rfl,rfl,by simp,λk hk hn=>World.putObj_heap_other hn⟩
  have aof:mI<W.heap.size:=aB KG;have Ns:∀k,ek { p with h:=h6,S:=S',sc:=oF } { d with bI:=jk d.bI [x],am:=d.am++fh [x],nb:=1 } k->k≠mI/\k≠w.heap.size+1:=λk hk2=>by
   rcases hk2 with h1|h1|h1|h1|⟨hz,-⟩
   .refine⟨λe=>?_,λe=>?_⟩
    .rcases I3 k h1 with h3|h3
     .exact UJ k (.inl h3) e
     .omega
    .subst e;exact rO.dk.nf apC (by decide) (by decide) (by decide) (by decide) (by decide) h1
   .have:=pY k (.inr (.inl h1));have:=hU;have:=mS.size;exact⟨by omega,by omega⟩
   .have:=pY k (.inr (.inr (.inl h1)));have:=mS.size;exact⟨by omega,by omega⟩
   .have:=pY k (.inr (.inr (.inr (.inl h1))));have:=mS.size;exact⟨by omega,by omega⟩
   .exact absurd (show(1:Nat)=0 from hz) (by decide)
  have OG:∀k,bg S' k->k≠mI/\k≠w.heap.size+1/\k<W.heap.size:=λk hk2=>by
   obtain⟨h3,cs,z,h4⟩:=xJ k hk2;refine⟨λe=>?_,λe=>?_,(aB h4)⟩
   .subst e;rw[KG] at h4;cases h4
   .subst e;exact absurd (cS h4 UI) (by decide)
  have oA:eS B { p with h:=h6,S:=S',sc:=oF } { d with bI:=jk d.bI [x],am:=d.am++fh [x],nb:=1 } eN (λk=>K k\/bg S' k) (w7.putObj mI (Obj.deferred none)):=by
   refine(rO.keep yD (λk h1 h2=>(Ns k h1).2 h2) (λk h1 h2=>?_)).keep xY (λk h1 h2=>(Ns k h1).1 h2) (λk h1 h2=>?_)
   .have h2:k=w.heap.size+1:=h2;rcases h1 with h1|h1
    .have:=ig k h1;omega
    .exact(OG k h1).2.1 h2
   .have h2:k=mI:=h2;rcases h1 with h1|h1
    .have:=qp k h1;omega
    .exact(OG k h1).1 h2
  have aj3:V.af (ek p d) w (w7.putObj mI (Obj.deferred none)):=by
   refine⟨xY.os.trans (yD.os.trans (nx.os.trans (hk'.os.trans mS.os))),xY.tape.trans (yD.tape.trans (nx.tape.trans (hk'.tape.trans mS.tape))),xY.output.trans (yD.output.trans (nx.output.trans (hk'.output.trans mS.output))),bQ mS.size (bQ hk'.size (bQ nx.size (bQ yD.size xY.size))),λk hk2 hn=>?_⟩;have eX:=mS.block k hk2;have l4:=cg hk2 mS.size;have fM:=hk'.block k l4 hn;have RB:=cg l4 hk'.size;have tH:=nx.block k RB (λh=>by
    rcases h with h|h
    .rcases hf' k h with h3|h3
     .exact hn (.inl h3)
     .omega
    .exact hn (.inr (.inr (.inr (.inl h)))))
   have s9:=cg RB nx.size;have xC:=yD.block k s9 (by show¬k=w.heap.size+1;omega);have aj4:=cg s9 yD.size;have aj5:=xY.block k aj4 (by show¬k=mI;omega);exact aj5.trans (xC.trans (tH.trans (fM.trans eX)))
  refine⟨.bool true,by simp[results,results80,go_sem,HA],rfl,h6,S',oF,oA,aj3,λk h1=>?_,fW.trans he',λk h1=>⟨(xJ k h1).1,?_,?_⟩⟩
  .rcases I3 k h1 with h3|h3
   .exact hf' k h3
   .right;have:=hk'.size;have:=mS.size;omega
  .have:=(OG k h1).2.2;have:=nx.size;have:=yD.size;have:=xY.size;omega
  .obtain⟨h3,cs,z,h4⟩:=xJ k h1;obtain⟨h5,aj6,h7⟩:=OG k h1;refine⟨cs,z,cL xY (cL yD (cL nx h4 (λh=>?_)) (by show¬k=w.heap.size+1;exact aj6)) (by show¬k=mI;exact h5)⟩;rcases h with h|h
   .exact H'.dk.nf h4 (by decide) (by decide) (by decide) (by decide) (by decide) h
   .have:=pY k (.inr (.inr (.inr (.inl h))));omega
 case stop=>
  rintro mI c9 pre W hU⟨k,hk,hpk⟩ ⟨y,rfl,hy⟩ KG;exfalso
  have iU:k=1:=by have:=congrArg List.length hpk;rw[Zg] at this;simp at this;omega
  subst iU;have h9:xe 1000 1 1= [(0,1)]:=by decide
  rw[h9] at hpk;injection hpk with hpk;subst hpk;simp at hy
end
section
open Go.RowKit Go.Maps
theorem jj(wY bm gn:Nat)(id:Int)(mf mid k no:Nat)(A:Option Addr)(n c:Nat)(w:World)(hn:w.cell? ⟨wY,0,none⟩=some (.pointer (some ⟨gn,0,none⟩)))(h0:w.cell? ⟨gn,0,none⟩=some (.int .i64 id))(h1:w.cell? ⟨bm,1,none⟩=some (.int .i64 mf))(h3:w.cell? ⟨bm,3,none⟩=some (.int .u64 mid))(mC:wY<w.heap.size)(nE:gn<w.heap.size)(B9:bm<w.heap.size):
 Calls prog 78 #[.int .i64 k,.int .u64 no,.slice A n c,.pointer (some ⟨wY,0,none⟩),.pointer (some ⟨bm,0,none⟩)] w λe w'=>∃Q,e= .returned (.slice (some ⟨Q,0,none⟩) 1 1)/\w'.ownsRow w.heap.size 135 6 (.slice (some ⟨Q,0,none⟩) 1 1) 1 [.int .i64 k,.int .i64 id,.int .i64 mf,.int .u64 mid,.int .u64 no,.slice A n c]/\aoV w w':=by
 have hcell:∀W,aoV w W->W.cell? ⟨wY,0,none⟩=some (.pointer (some ⟨gn,0,none⟩))/\W.cell? ⟨gn,0,none⟩=some (.int .i64 id)/\W.cell? ⟨bm,1,none⟩=some (.int .i64 mf)/\W.cell? ⟨bm,3,none⟩=some (.int .u64 mid):=λW hW=>
  ⟨(hW.cell (p:=⟨wY,0,none⟩) mC).trans hn,(hW.cell (p:=⟨gn,0,none⟩) nE).trans h0,(hW.cell (p:=⟨bm,1,none⟩) B9).trans h1,(hW.cell (p:=⟨bm,3,none⟩) B9).trans h3⟩
 have cB:=aoU hcell;clear hcell hn h0 h1 h3;go_enter func78,ntmps78
 go_wp2_with fail;apply V.iE (λi vs W=>aoV w W/\(i=1->∃Q,vs 12= .slice (some ⟨Q,0,none⟩) 1 1/\W.ownsRow w.heap.size 135 6 (.slice (some ⟨Q,0,none⟩) 1 1) 1 [.int .i64 k,.int .i64 id,.int .i64 mf,.int .u64 mid,.int .u64 no,.slice A n c])/\(i=2->∃Q,vs 13= .slice (some ⟨Q,0,none⟩) 1 1/\W.ownsRow w.heap.size 135 6 (.slice (some ⟨Q,0,none⟩) 1 1) 1 [.int .i64 k,.int .i64 id,.int .i64 mf,.int .u64 mid,.int .u64 no,.slice A n c])) (by kernel_rfl) (by kernel_rfl) (λvs=>⟨aoV.drew (aoV.refl w),λe=>absurd e (by decide),λe=>absurd e (by decide)⟩)
 .intro aF aoX;iterate 12 (apply V.az.ok;(· intro i vs ai hS;obtain⟨d0,d1,d2,d3⟩:=cB.out ai hS.1;clear hS;go_simp;(try with_reducible rfl));(· rfl);simp only[au,Nat.reduceAdd])
  apply V.az.cG;rfl
  .intro vs ag hS cY ah;obtain⟨k1,-⟩:=hS;have hal:=(aoV.refl ag).alloc (.cells #[.int .i64 k,.int .i64 id,.int .i64 mf,.int .u64 mid,.int .u64 no,.slice A n c] 135);have jW:=wt ag #[.int .i64 k,.int .i64 id,.int .i64 mf,.int .u64 mid,.int .u64 no,.slice A n c] 135 (base:=w.heap.size) (sz:=6) (n:=1) k1.size rfl (by omega);have aK:=aoU (ah.out (.slice (some ⟨ag.heap.size,0,none⟩) 1 1) _ ⟨k1.trans hal,λ_=>⟨ag.heap.size,by rw[V.eV],jW⟩,λe=>absurd e (by decide)⟩);clear ah;go_simp;exact aK.out
  simp only[au,Nat.reduceAdd];apply V.az.cG;rfl
  .intro vs ag hS cY ah;obtain⟨k1,k2,-⟩:=hS;obtain⟨Q,hv,ho⟩:=k2 rfl;have aK:=aoU (ah.out (.slice (some ⟨Q,0,none⟩) 1 1) ag ⟨k1,λe=>absurd e (by decide),λ_=>⟨Q,by rw[V.eV],ho⟩⟩);clear ah k2
   (try dsimp only at aK|-)
   rw[hv] at aK|-;clear hv;go_simp;exact aK.out
  simp only[au,Nat.reduceAdd];apply V.az.fin;intro vs ag hS;obtain⟨k1,-,k2⟩:=hS;obtain⟨Q,hv,ho⟩:=k2 rfl;refine aoX.out _ _ ?_;clear aoX k2
  (try dsimp only)
  rw[hv];clear hv;go_wp2_with fail;go_ret;exact⟨Q,rfl,ho,k1⟩
 .kernel_rfl
theorem aj7{B gn:Nat}{p:Sp}{d:bA}{D:aV}{K:aD}{w:World}{nr:Array Value}(hnb:w.heap[gn]?=some (.cells nr 153 (0,0)))(v:em)(hn0:nr[0]?=some (.int .i64 v.m.t))(fj:nr[1]?=some (.pointer (some ⟨p.gs,0,none⟩)))(H:eS B p d D K w)(ig:∀k,K k->k<w.heap.size)(hv:Rd w w.heap.size 5 v.A v.m.l.length (bl v.m.l))(hlen:v.m.l.length<=1500)(hok:gT v.m=true)(at_:Nat)(ht:v.m.t=at_)(hk:v.m.k=2\/v.m.k=5):
 Calls prog 53 #[.pointer (some ⟨gn,0,none⟩),.agg #[.int .i64 v.m.k,.int .i64 v.m.f,.int .i64 v.m.t,.int .u64 v.m.id,.int .u64 v.m.n,.slice v.A v.m.l.length v.c]] w λe w'=>e= .returned (.slice none 0 0)/\aoV w w':=by
 obtain⟨⟨mk,mf,mt,mid,mn,l⟩,bj,dS⟩:=v
 (try dsimp only at *)
 subst ht;obtain⟨wa,cM⟩:=bB ((w.alloc (.cells #[.pointer (some ⟨gn,0,none⟩)] 62)).alloc (.cells #[.int .i64 mk,.int .i64 mf,.int .i64 mt,.int .u64 mid,.int .u64 mn,.slice bj l.length dS] 135))
 have aQ:aoV w wa:=by rw[cM];exact((aoV.refl w).alloc _).alloc _
 have fe:wa.heap[w.heap.size]?=some (.cells #[.pointer (some ⟨gn,0,none⟩)] 62 (0,0)):=by rw[cM];exact aH ((aoV.refl _).alloc _) (bp w _)
 have ao0:wa.heap[w.heap.size+1]?=some (.cells #[.int .i64 mk,.int .i64 mf,.int .i64 mt,.int .u64 mid,.int .u64 mn,.slice bj l.length dS] 135 (0,0)):=by
  rw[cM];have:=bp (w.alloc (.cells #[.pointer (some ⟨gn,0,none⟩)] 62)) (.cells #[.int .i64 mk,.int .i64 mf,.int .i64 mt,.int .u64 mid,.int .u64 mn,.slice bj l.length dS] 135)
  rwa[fF] at this
 have iM:=λW (hW:Rd W W.heap.size 5 bj l.length (bl l))=>zl (mk:Int) (mf:Int) (mt:Int) mid mn bj l.length dS l W hW (by omega)
 have gW:pM (mk:Int) (mf:Int) (mt:Int) mid mn l=true:=hok;rw[gW] at iM;have lj:=aoU iM;have hcell:∀W,aoV wa W->(aoV wa W/\Rd W W.heap.size 5 bj l.length (bl l))/\W.cell? ⟨gn,0,none⟩=some (.int .i64 mt)/\W.cell? ⟨gn,1,none⟩=some (.pointer (some ⟨p.gs,0,none⟩))/\W.cell? ⟨w.heap.size,0,none⟩=some (.pointer (some ⟨gn,0,none⟩))/\
  W.cell? ⟨w.heap.size+1,0,none⟩=some (.int .i64 mk)/\W.cell? ⟨w.heap.size+1,1,none⟩=some (.int .i64 mf)/\W.cell? ⟨w.heap.size+1,2,none⟩=some (.int .i64 mt)/\W.cell? ⟨w.heap.size+1,3,none⟩=some (.int .u64 mid)/\W.cell? ⟨w.heap.size+1,4,none⟩=some (.int .u64 mn)/\W.cell? ⟨w.heap.size+1,5,none⟩=some (.slice bj l.length dS):=λW hW=>by
  have e0:=aH (aQ.trans hW) hnb;have e1:=aH hW fe;have e2:=aH hW ao0;exact⟨⟨hW,hv.up (aQ.trans hW)⟩,(aoW e0 0).trans hn0,(aoW e0 1).trans fj,aoW e1 0,aoW e2 0,aoW e2 1,aoW e2 2,aoW e2 3,aoW e2 4,aoW e2 5⟩
 have cB:=aoU hcell;have Cb:=aoU (λW (hW:aoV wa W)=>Fv (H.up ig (aQ.trans hW)) (λk hk=>cg (ig k hk) (aQ.trans hW).size));have jK:=aoU cM;have dr:=aoU H;have cd:=aoU hv;have hgb:w.heap.size<wa.heap.size/\w.heap.size+1<wa.heap.size:=by rw[cM,fF,fF];omega
 clear hcell iM gW hok cM H hv hlen hn0 fj hnb;go_enter func53,ntmps53
 go_wp2_with fail;rw[<- jK.out];clear jK;generalize eH:w.heap.size=br at *;apply V.fQ _ (by kernel_rfl) (by kernel_rfl) cB.out
 .intro aF aoX;iterate 1 (apply V.aj.ok;intros;go_simp;rfl;rfl;go_frame)
  apply V.aj.call (.bool true) [];rfl
  .intro vs w1 hK hS _ K ah;go_simp;refine(lj.out _ hS.1.2).mono ?_;rintro e w2⟨rfl,aq⟩;exact ah.out _ aq
  simp only[au,Nat.reduceAdd];iterate 2 (apply V.aj.ok;intros;go_simp;rfl;rfl;go_frame)
  iterate 7 (apply V.aj.eI (t:=14);intros;go_simp;rfl;rfl;intro;rfl;go_frame)
  iterate 1 (apply V.aj.ok;intros;go_simp;rfl;rfl;go_frame)
  apply V.aj.fin [];intro vs w1 hK hS _;refine aoX.out _ _ ?_;clear aoX;obtain⟨⟨hu1,sj⟩,c0,c1,c2,d0,d1,d2,d3,d4,d5⟩:=hS;clear lj hK;go_wp2_with fail;refine(Cb.out w1 hu1).mono ?_;rintro e w2⟨rfl,aq⟩;have fL:=hu1.trans aq;have hal:=(aoV.refl w2).alloc (.cells #[.int .u64 d.ao.aM,.int .u64 d.ao.ce,.int .u64 d.ao.a,.int .u64 d.ao.le] 97);have B9:=bp w2 (.cells #[.int .u64 d.ao.aM,.int .u64 d.ao.ce,.int .u64 d.ao.a,.int .u64 d.ao.le] 97);have bV:=fL.trans hal;obtain⟨⟨-,oE⟩,f0,f1,f2,g0,g1,g2,g3,g4,g5⟩:=cB.out _ bV;clear c0 c1 c2 d0 d1 d2 d3 d4 d5 sj Cb
  rcases hk with rfl|rfl
  .rw[show((2:Nat):Int)=2 from rfl] at *;go_wp2_with fail;go_ret;exact⟨rfl,aQ.trans bV⟩
  .rw[show((5:Nat):Int)=5 from rfl] at *;go_wp2_with fail;go_ret;exact⟨rfl,aQ.trans bV⟩
 .kernel_rfl
theorem aj8{B gn:Nat}{p:Sp}{d:bA}{D:aV}{K:aD}{w:World}{nr:Array Value}(hnb:w.heap[gn]?=some (.cells nr 153 (0,0)))(v:em)(hn0:nr[0]?=some (.int .i64 v.m.t))(fj:nr[1]?=some (.pointer (some ⟨p.gs,0,none⟩)))(H:eS B p d D K w)(ig:∀k,K k->k<w.heap.size)(hv:Rd w w.heap.size 5 v.A v.m.l.length (bl v.m.l))(hlen:v.m.l.length<=1500)(hok:gT v.m=true)(at_:Nat)(ht:v.m.t=at_)(hk:v.m.k=4)(OH:v.m.n<=255)(hits:d.bI.length<=1000000):
 Calls prog 53 #[.pointer (some ⟨gn,0,none⟩),.agg #[.int .i64 v.m.k,.int .i64 v.m.f,.int .i64 v.m.t,.int .u64 v.m.id,.int .u64 v.m.n,.slice v.A v.m.l.length v.c]] w λe w'=>∃Q R rc,e= .returned (.slice (some ⟨Q,0,none⟩) 1 1)/\w'.ownsRow w.heap.size 135 6 (.slice (some ⟨Q,0,none⟩) 1 1) 1 (nX ⟨⟨5,at_,v.m.f,v.m.id,d.ao.ce,rq d.bI (Int64.ofInt v.m.n)⟩,R,(rq d.bI (Int64.ofInt v.m.n)).length⟩)/\ej w' w.heap.size R (rq d.bI (Int64.ofInt v.m.n)).length rc (rq d.bI (Int64.ofInt v.m.n))/\aoV w w':=by
 have Ck:=aoU (λW (hW:aoV w W) (s:Int64)=>adN (H.up ig hW) hits s);have fV:=aoU hk;clear hk;obtain⟨⟨mk,mf,mt,mid,mn,l⟩,bj,dS⟩:=v
 (try dsimp only at *)
 subst ht;obtain⟨wa,cM⟩:=bB ((w.alloc (.cells #[.pointer (some ⟨gn,0,none⟩)] 62)).alloc (.cells #[.int .i64 mk,.int .i64 mf,.int .i64 mt,.int .u64 mid,.int .u64 mn,.slice bj l.length dS] 135))
 have aQ:aoV w wa:=by rw[cM];exact((aoV.refl w).alloc _).alloc _
 have fe:wa.heap[w.heap.size]?=some (.cells #[.pointer (some ⟨gn,0,none⟩)] 62 (0,0)):=by rw[cM];exact aH ((aoV.refl _).alloc _) (bp w _)
 have ao0:wa.heap[w.heap.size+1]?=some (.cells #[.int .i64 mk,.int .i64 mf,.int .i64 mt,.int .u64 mid,.int .u64 mn,.slice bj l.length dS] 135 (0,0)):=by
  rw[cM];have:=bp (w.alloc (.cells #[.pointer (some ⟨gn,0,none⟩)] 62)) (.cells #[.int .i64 mk,.int .i64 mf,.int .i64 mt,.int .u64 mid,.int .u64 mn,.slice bj l.length dS] 135)
  rwa[fF] at this
 have iM:=λW (hW:Rd W W.heap.size 5 bj l.length (bl l))=>zl (mk:Int) (mf:Int) (mt:Int) mid mn bj l.length dS l W hW (by omega)
 have gW:pM (mk:Int) (mf:Int) (mt:Int) mid mn l=true:=hok;rw[gW] at iM;have lj:=aoU iM;have hcell:∀W,aoV wa W->(aoV wa W/\Rd W W.heap.size 5 bj l.length (bl l))/\W.cell? ⟨gn,0,none⟩=some (.int .i64 mt)/\W.cell? ⟨gn,1,none⟩=some (.pointer (some ⟨p.gs,0,none⟩))/\W.cell? ⟨w.heap.size,0,none⟩=some (.pointer (some ⟨gn,0,none⟩))/\
  W.cell? ⟨w.heap.size+1,0,none⟩=some (.int .i64 mk)/\W.cell? ⟨w.heap.size+1,1,none⟩=some (.int .i64 mf)/\W.cell? ⟨w.heap.size+1,2,none⟩=some (.int .i64 mt)/\W.cell? ⟨w.heap.size+1,3,none⟩=some (.int .u64 mid)/\W.cell? ⟨w.heap.size+1,4,none⟩=some (.int .u64 mn)/\W.cell? ⟨w.heap.size+1,5,none⟩=some (.slice bj l.length dS):=λW hW=>by
  have e0:=aH (aQ.trans hW) hnb;have e1:=aH hW fe;have e2:=aH hW ao0;exact⟨⟨hW,hv.up (aQ.trans hW)⟩,(aoW e0 0).trans hn0,(aoW e0 1).trans fj,aoW e1 0,aoW e2 0,aoW e2 1,aoW e2 2,aoW e2 3,aoW e2 4,aoW e2 5⟩
 have cB:=aoU hcell;have Cb:=aoU (λW (hW:aoV wa W)=>Fv (H.up ig (aQ.trans hW)) (λk hk=>cg (ig k hk) (aQ.trans hW).size));have jK:=aoU cM;have dr:=aoU H;have cd:=aoU hv;have hgb:w.heap.size<wa.heap.size/\w.heap.size+1<wa.heap.size:=by rw[cM,fF,fF];omega
 clear hcell iM gW hok cM H hv hlen hn0 fj hnb;go_enter func53,ntmps53
 go_wp2_with fail;rw[<- jK.out];clear jK;generalize eH:w.heap.size=br at *;apply V.fQ _ (by kernel_rfl) (by kernel_rfl) cB.out
 .intro aF aoX;iterate 1 (apply V.aj.ok;intros;go_simp;rfl;rfl;go_frame)
  apply V.aj.call (.bool true) [];rfl
  .intro vs w1 hK hS _ K ah;go_simp;refine(lj.out _ hS.1.2).mono ?_;rintro e w2⟨rfl,aq⟩;exact ah.out _ aq
  simp only[au,Nat.reduceAdd];iterate 2 (apply V.aj.ok;intros;go_simp;rfl;rfl;go_frame)
  iterate 7 (apply V.aj.eI (t:=14);intros;go_simp;rfl;rfl;intro;rfl;go_frame)
  iterate 1 (apply V.aj.ok;intros;go_simp;rfl;rfl;go_frame)
  apply V.aj.fin [];intro vs w1 hK hS _;refine aoX.out _ _ ?_;clear aoX;obtain⟨⟨hu1,sj⟩,c0,c1,c2,d0,d1,d2,d3,d4,d5⟩:=hS;clear lj hK;go_wp2_with fail;refine(Cb.out w1 hu1).mono ?_;rintro e w2⟨rfl,aq⟩;have fL:=hu1.trans aq;have hal:=(aoV.refl w2).alloc (.cells #[.int .u64 d.ao.aM,.int .u64 d.ao.ce,.int .u64 d.ao.a,.int .u64 d.ao.le] 97);have B9:=bp w2 (.cells #[.int .u64 d.ao.aM,.int .u64 d.ao.ce,.int .u64 d.ao.a,.int .u64 d.ao.le] 97);have bV:=fL.trans hal;obtain⟨⟨-,oE⟩,f0,f1,f2,g0,g1,g2,g3,g4,g5⟩:=cB.out _ bV;clear c0 c1 c2 d0 d1 d2 d3 d4 d5 sj Cb
  have oS:mk=4:=fV.out;clear fV;subst oS;rw[show((4:Nat):Int)=4 from rfl] at *;have y1:decide ((mn:Int)<=255)=true:=by rw[lw];omega
  have lZ:IntKind.i64.wrap (mn:Int)=(mn:Int):=IntWalk.i64_in _ (by omega);have hsi:(Int64.ofInt (mn:Int)).toInt=(mn:Int):=Int64.toInt_ofInt_of_le (by omega) (by omega);have e1:=aoW B9 1;have Dc:w.heap.size=br:=eH;have aog:=hgb;have aoh:=fL.size;have aoi:w2.heap.size<=w2.heap.size:=aZ _;have aj9:=aoU hsi;have Nx:=aoU Dc;have ao6:aoV w w2:=aQ.trans fL;have ic:∀W,aoV (w2.alloc (.cells #[.int .u64 d.ao.aM,.int .u64 d.ao.ce,.int .u64 d.ao.a,.int .u64 d.ao.le] 97)) W->W.cell? ⟨w2.heap.size,1,none⟩=some (.int .u64 d.ao.ce):=λW hW=>aoW (aH hW B9) 1
  have KH:=aoU ic;clear hsi eH Dc ic OH;go_wp2_with fail;generalize w2.alloc (.cells #[.int .u64 d.ao.aM,.int .u64 d.ao.ce,.int .u64 d.ao.a,.int .u64 d.ao.le] 97)=wc at *;generalize w2.heap.size=aj' at *;have xK:aoV w wc:=aQ.trans bV;have UK:w.heap.size=br:=Nx.out;have aoj:gn<wa.heap.size:=by
   have h:=(cB.out wa (aoV.refl _)).2.1;exact World.block_lt_of_cell? wa ⟨gn,0,none⟩ h
  have ap':=aoU (Ck.out);obtain⟨S,nu⟩:=bB (rq d.bI (Int64.ofInt (mn:Int)))
  have vu:=aoU nu;clear nu Ck;apply V.iE (λi vs W=>aoV wc W/\(i=1->∃R m rc,vs 10= .slice R m m/\ej W wc.heap.size R m rc S)/\
   (i=2->∃Q R m rc,vs 11= .slice (some ⟨Q,0,none⟩) 1 1/\ej W wc.heap.size R m rc S/\W.ownsRow wc.heap.size 135 6 (.slice (some ⟨Q,0,none⟩) 1 1) 1 [.int .i64 5,.int .i64 mt,.int .i64 mf,.int .u64 mid,.int .u64 d.ao.ce,.slice R m m])/\
   (i=3->∃Q R m rc,vs 12= .slice (some ⟨Q,0,none⟩) 1 1/\ej W wc.heap.size R m rc S/\W.ownsRow wc.heap.size 135 6 (.slice (some ⟨Q,0,none⟩) 1 1) 1 [.int .i64 5,.int .i64 mt,.int .i64 mf,.int .u64 mid,.int .u64 d.ao.ce,.slice R m m]))
   (by kernel_rfl) (by kernel_rfl) (λvs=>⟨aoV.drew (aoV.refl wc),λe=>absurd e (by decide),λe=>absurd e (by decide),λe=>absurd e (by decide)⟩)
  .intro aF aoX;iterate 10 (apply V.az.ok;(· intro i vs ai hS;obtain⟨-,f0,f1,f2,g0,g1,g2,g3,g4,g5⟩:=cB.out ai (bV.trans hS.1);have e1:=KH.out ai hS.1;clear hS;go_simp;(try with_reducible rfl));(· rfl);simp only[au,Nat.reduceAdd])
   apply V.az.cG;rfl
   .intro vs ag hS cY ah;obtain⟨k1,-⟩:=hS;have bh:=aoU (ap'.out ag (xK.trans k1) (Int64.ofInt (mn:Int)));rw[aj9.out] at bh;go_simp;refine bh.out.mono ?_;rintro e ai⟨R,m,rfl,hm,⟨rc,ho⟩,cI⟩;exact ah.out _ _ ⟨k1.trans cI,λ_=>⟨R,m,rc,by rw[V.eV],by rw[vu.out];exact jP ho k1.size⟩,λe=>absurd e (by decide),λe=>absurd e (by decide)⟩
   simp only[au,Nat.reduceAdd];apply V.az.cG;rfl
   .intro vs ag hS cY ah;obtain⟨k1,k2,-⟩:=hS;obtain⟨R,m,rc,xt,ho⟩:=k2 rfl;obtain⟨-,f0,f1,f2,g0,g1,g2,g3,g4,g5⟩:=cB.out ag (bV.trans k1);have bh:=aoU (jj br (br+1) gn (mt:Int) mf mid 5 d.ao.ce R m m ag f2 f0 g1 g3 (by have:=(bV.trans k1).size;omega) (by have:=(bV.trans k1).size;omega) (by have:=(bV.trans k1).size;omega));clear f0 f1 f2 g0 g1 g2 g3 g4 g5 k2
    (try dsimp only at ah|-)
    rw[xt] at ah|-;clear xt;go_simp;refine bh.out.mono ?_;rintro e ai⟨Q,rfl,hq,cI⟩;exact ah.out _ _ ⟨k1.trans cI,λe=>absurd e (by decide),λ_=>⟨Q,R,m,rc,by rw[V.eV],el ho cI,jP hq k1.size⟩,λe=>absurd e (by decide)⟩
   simp only[au,Nat.reduceAdd];apply V.az.cG;rfl
   .intro vs ag hS cY ah;obtain⟨k1,-,k2,-⟩:=hS;obtain⟨Q,R,m,rc,xt,ho,hq⟩:=k2 rfl;have aK:=aoU (ah.out (.slice (some ⟨Q,0,none⟩) 1 1) ag ⟨k1,λe=>absurd e (by decide),λe=>absurd e (by decide),λ_=>⟨Q,R,m,rc,by rw[V.eV],ho,hq⟩⟩);clear k2 ah
    (try dsimp only at aK|-)
    rw[xt] at aK|-;clear xt;go_simp;exact aK.out
   simp only[au,Nat.reduceAdd];apply V.az.fin;intro vs ag hS;obtain⟨k1,-,-,k2⟩:=hS;obtain⟨Q,R,m,rc,xt,ho,hq⟩:=k2 rfl;refine aoX.out _ _ ?_;clear aoX k2
   (try dsimp only)
   rw[xt];clear xt;have hml:=ho.len;have JQ:=aoU hml;clear hml;go_wp2_with fail;go_ret;have Ao:w.heap.size<=wc.heap.size:=xK.size;rw[<- vu.out];refine⟨Q,R,rc,rfl,?_,?_,xK.trans k1⟩
   .have e:nX ⟨⟨5,mt,mf,mid,d.ao.ce,S⟩,R,S.length⟩= [.int .i64 5,.int .i64 mt,.int .i64 mf,.int .u64 mid,.int .u64 d.ao.ce,.slice R m m]:=by rw[JQ.out];rfl
    rw[e];exact jP hq (by omega)
   .rw[<- JQ.out];exact jP ho (by omega)
  .kernel_rfl
 .kernel_rfl
theorem akb{B gn:Nat}{p:Sp}{d:bA}{D D' eN:aV}{K:aD}{w:World}{nr:Array Value}(hnb:w.heap[gn]?=some (.cells nr 153 (0,0)))(v:em)(hn0:nr[0]?=some (.int .i64 v.m.t))(fj:nr[1]?=some (.pointer (some ⟨p.gs,0,none⟩)))(Ec:¬ek p d gn)(H:eS B p d D K w)(uz:∀k,ek p d k->¬K k)(ig:∀k,K k->k<w.heap.size)(hv:Rd w w.heap.size 5 v.A v.m.l.length (bl v.m.l))(hlen:v.m.l.length<=1500)(hcap:v.m.l.length<=v.c)(akc:∀k,bW v.A k->¬ek p d k)(hok:gT v.m=true)(at_:Nat)(ht:v.m.t=at_)(hk:v.m.k=1)(x:aC)(hl:v.m.l= [x])(qr:(v.m.l.any λy=>decide (y.v.toNat<=d.ao.aM))=false)(h0:d.nb=0)(hdk:dx D)(cn:D.calls<=100000000)(hx:okB x=true)(hpre:zE d.bI [x])(hne:d.bI≠jk d.bI [x])(pF:d.bI.length<=1500)(hl2:(jk d.bI [x]).length<=1500)(hD:ia D dK (fh [x])=(D',0))(ry:ld D' dK=(eN,0))(gW:dx D')(vz:D'.calls<=1000000000)(hb:lh [x]=0)(yo:d.am.length<=1000000):
 Calls prog 53 #[.pointer (some ⟨gn,0,none⟩),.agg #[.int .i64 v.m.k,.int .i64 v.m.f,.int .i64 v.m.t,.int .u64 v.m.id,.int .u64 v.m.n,.slice v.A v.m.l.length v.c]] w λe w'=>∃Q h' S' oF,e= .returned (.slice (some ⟨Q,0,none⟩) 1 1)/\w'.ownsRow w.heap.size 135 6 (.slice (some ⟨Q,0,none⟩) 1 1) 1 (nX ⟨⟨2,at_,v.m.f,v.m.id,0,[]⟩,none,0⟩)/\
  eS B { p with h:=h',S:=S',sc:=oF } { d with bI:=jk d.bI [x],am:=d.am++fh [x],nb:=1 } eN (λk=>K k\/bg S' k) w'/\V.af (ek p d) w w'/\(∀k,aJ h' k->aJ p.h k\/w.heap.size<=k)/\h'.g=p.h.g/\(∀k,bg S' k->w.heap.size<=k/\k<w'.heap.size/\∃cs z,w'.heap[k]?=some (.cells cs 37 z)):=by
 have v7:=aoU (λW (hW:aoV w W) (b o c:Nat) (hc1:1<=c) (hr:Rd W W.heap.size 5 (some ⟨b,o,none⟩) 1 (bl [x])) (B5:¬ek p d b)=>ajU (aH hW hnb) fj Ec (H.up ig hW) uz (λk hk=>cg (ig k hk) hW.size) h0 hdk cn x hx hpre hne pF hl2 hD ry gW vz hb yo b o c hc1 hr B5);have fV:=aoU hk;have bU:=aoU hl;have Oy:=aoU qr;have un:=aoU Ec;have akd:=aoU hcap;have pY:∀k,ek p d k->k<w.heap.size:=λk hk=>(H.lt hk).2
 have ake:=aoU pY;have S9:=hnb;have X9:=hn0;have Ff:=aoU S9;have akf:=aoU X9;clear hk hl qr Ec hcap pY S9 X9 h0 hdk cn hx hpre hne pF hl2 hD ry gW vz hb yo uz;obtain⟨⟨mk,mf,mt,mid,mn,l⟩,bj,dS⟩:=v
 (try dsimp only at *)
 subst ht;obtain⟨wa,cM⟩:=bB ((w.alloc (.cells #[.pointer (some ⟨gn,0,none⟩)] 62)).alloc (.cells #[.int .i64 mk,.int .i64 mf,.int .i64 mt,.int .u64 mid,.int .u64 mn,.slice bj l.length dS] 135))
 have aQ:aoV w wa:=by rw[cM];exact((aoV.refl w).alloc _).alloc _
 have fe:wa.heap[w.heap.size]?=some (.cells #[.pointer (some ⟨gn,0,none⟩)] 62 (0,0)):=by rw[cM];exact aH ((aoV.refl _).alloc _) (bp w _)
 have ao0:wa.heap[w.heap.size+1]?=some (.cells #[.int .i64 mk,.int .i64 mf,.int .i64 mt,.int .u64 mid,.int .u64 mn,.slice bj l.length dS] 135 (0,0)):=by
  rw[cM];have:=bp (w.alloc (.cells #[.pointer (some ⟨gn,0,none⟩)] 62)) (.cells #[.int .i64 mk,.int .i64 mf,.int .i64 mt,.int .u64 mid,.int .u64 mn,.slice bj l.length dS] 135)
  rwa[fF] at this
 have iM:=λW (hW:Rd W W.heap.size 5 bj l.length (bl l))=>zl (mk:Int) (mf:Int) (mt:Int) mid mn bj l.length dS l W hW (by omega)
 have gW:pM (mk:Int) (mf:Int) (mt:Int) mid mn l=true:=hok;rw[gW] at iM;have lj:=aoU iM;have hcell:∀W,aoV wa W->(aoV wa W/\Rd W W.heap.size 5 bj l.length (bl l))/\W.cell? ⟨gn,0,none⟩=some (.int .i64 mt)/\W.cell? ⟨gn,1,none⟩=some (.pointer (some ⟨p.gs,0,none⟩))/\W.cell? ⟨w.heap.size,0,none⟩=some (.pointer (some ⟨gn,0,none⟩))/\
  W.cell? ⟨w.heap.size+1,0,none⟩=some (.int .i64 mk)/\W.cell? ⟨w.heap.size+1,1,none⟩=some (.int .i64 mf)/\W.cell? ⟨w.heap.size+1,2,none⟩=some (.int .i64 mt)/\W.cell? ⟨w.heap.size+1,3,none⟩=some (.int .u64 mid)/\W.cell? ⟨w.heap.size+1,4,none⟩=some (.int .u64 mn)/\W.cell? ⟨w.heap.size+1,5,none⟩=some (.slice bj l.length dS):=λW hW=>by
  have e0:=aH (aQ.trans hW) hnb;have e1:=aH hW fe;have e2:=aH hW ao0;exact⟨⟨hW,hv.up (aQ.trans hW)⟩,(aoW e0 0).trans hn0,(aoW e0 1).trans fj,aoW e1 0,aoW e2 0,aoW e2 1,aoW e2 2,aoW e2 3,aoW e2 4,aoW e2 5⟩
 have cB:=aoU hcell;have Cb:=aoU (λW (hW:aoV wa W)=>Fv (H.up ig (aQ.trans hW)) (λk hk=>cg (ig k hk) (aQ.trans hW).size));have jK:=aoU cM;have dr:=aoU H;have cd:=aoU hv;have hgb:w.heap.size<wa.heap.size/\w.heap.size+1<wa.heap.size:=by rw[cM,fF,fF];omega
 clear hcell iM gW hok cM H hv hlen hn0 fj hnb;go_enter func53,ntmps53
 go_wp2_with fail;rw[<- jK.out];clear jK;generalize eH:w.heap.size=br at *;apply V.fQ _ (by kernel_rfl) (by kernel_rfl) cB.out
 .intro aF aoX;iterate 1 (apply V.aj.ok;intros;go_simp;rfl;rfl;go_frame)
  apply V.aj.call (.bool true) [];rfl
  .intro vs w1 hK hS _ K ah;go_simp;refine(lj.out _ hS.1.2).mono ?_;rintro e w2⟨rfl,aq⟩;exact ah.out _ aq
  simp only[au,Nat.reduceAdd];iterate 2 (apply V.aj.ok;intros;go_simp;rfl;rfl;go_frame)
  iterate 7 (apply V.aj.eI (t:=14);intros;go_simp;rfl;rfl;intro;rfl;go_frame)
  iterate 1 (apply V.aj.ok;intros;go_simp;rfl;rfl;go_frame)
  apply V.aj.fin [];intro vs w1 hK hS _;refine aoX.out _ _ ?_;clear aoX;obtain⟨⟨hu1,sj⟩,c0,c1,c2,d0,d1,d2,d3,d4,d5⟩:=hS;clear lj hK;go_wp2_with fail;refine(Cb.out w1 hu1).mono ?_;rintro e w2⟨rfl,aq⟩;have fL:=hu1.trans aq;have hal:=(aoV.refl w2).alloc (.cells #[.int .u64 d.ao.aM,.int .u64 d.ao.ce,.int .u64 d.ao.a,.int .u64 d.ao.le] 97);have B9:=bp w2 (.cells #[.int .u64 d.ao.aM,.int .u64 d.ao.ce,.int .u64 d.ao.a,.int .u64 d.ao.le] 97);have bV:=fL.trans hal;obtain⟨⟨-,oE⟩,f0,f1,f2,g0,g1,g2,g3,g4,g5⟩:=cB.out _ bV;clear c0 c1 c2 d0 d1 d2 d3 d4 d5 sj Cb
  have oS:mk=1:=fV.out;clear fV;subst oS;rw[show((1:Nat):Int)=1 from rfl] at *;have Ee:l= [x]:=bU.out;clear bU;obtain⟨e0,e1,e2,bG⟩:=qb B9;have xK:aoV w (w2.alloc (.cells #[.int .u64 d.ao.aM,.int .u64 d.ao.ce,.int .u64 d.ao.a,.int .u64 d.ao.le] 97)):=aQ.trans bV;have UK:w.heap.size=br:=eH;have wM:l.length<=1500:=by rw[Ee];simp
  have B6:=aoU (λW (hW:Rd W W.heap.size 5 bj l.length (bl l))=>ajq d.ao.aM d.ao.ce d.ao.a d.ao.le bj l.length dS l W hW (by omega));have akg:=aoU Ee;have akh:=aoU UK;clear Ee UK eH wM;go_wp2_with fail;generalize w2.alloc (.cells #[.int .u64 d.ao.aM,.int .u64 d.ao.ce,.int .u64 d.ao.a,.int .u64 d.ao.le] 97)=wc at *;generalize w2.heap.size=aj' at *;refine(B6.out wc oE).mono ?_;rintro e w4⟨rfl,eO⟩;rw[Oy.out];obtain⟨⟨-,Gf⟩,aki,akj,akk,akl,akm,akn,ako,akp,akq⟩:=cB.out w4 (bV.trans eO);clear e0 e1 e2 bG f0 f1 f2 g0 g1 g2 g3 g4 g5 B6 Oy
  go_wp2_with fail;have Ee:=akg.out;have wM:l.length=1:=by rw[Ee];rfl
  have Lm:bl l=bl [x]:=by rw[Ee]
  rw[wM,Lm] at Gf;obtain⟨b,o,xl,qX,-⟩:=Gf.2 (by omega);subst xl;have aL:¬ek p d b:=akc b ⟨_,rfl,rfl⟩;have hcap:=akd.out;rw[wM] at hcap;have bh:=aoU (v7.out w4 (xK.trans eO) b o dS hcap Gf aL);rw[wM];clear Ee Lm hcap v7;refine bh.out.mono ?_;rintro e ai⟨rfl,h',S',oF,H5,tT,Ax,eh,OI⟩;have UL:=akh.out;have mC:∀k,w.heap.size<=k->¬ek p d k:=λk h1 h2=>by have:=ake.out k h2;omega
  have f5:=cL tT (aH (bV.trans eO) fe) (mC br (by omega));have g5:=cL tT (aH (bV.trans eO) ao0) (mC (br+1) (by omega));have n5:=cL tT (aH (xK.trans eO) Ff.out) un.out;have akr:=aoU (jj br (br+1) gn (mt:Int) mf mid 2 0 none 0 0 ai (aoW f5 0) ((aoW n5 0).trans akf.out) (aoW g5 1) (aoW g5 3) (aB f5) (aB n5) (aB g5));have Zu:br<=ai.heap.size:=by rw[<- UL];exact bQ (xK.trans eO).size tT.size
  have UM:br=w.heap.size:=UL.symm;have aks:=aoU UM;clear UM UL;clear aki akj akk akl akm akn ako akp akq f5 g5 n5 wM cB;go_wp2_with fail;refine akr.out.mono ?_;rintro e cH⟨Q,rfl,hq,eZ⟩;have UM:=aks.out;have Et:w.heap.size<=ai.heap.size:=bQ (xK.trans eO).size tT.size;have akt:∀k,(K k\/bg S' k)->k<ai.heap.size:=λk hk2=>hk2.elim (λh=>by have:=ig k h;omega) (λh=>(OI k h).2.1)
  have rO:=H5.up akt eZ;go_wp2_with fail;go_ret;refine⟨Q,h',S',oF,rfl,jP hq Et,rO,?_,λk hk2=>(Ax k hk2).imp id (λh=>by have:=(xK.trans eO).size;omega),eh,λk hk2=>⟨by have:=(OI k hk2).1;have:=(xK.trans eO).size;omega,by have:=(OI k hk2).2.1;have:=eZ.size;omega,by obtain⟨cs,z,h9⟩:=(OI k hk2).2.2;exact⟨cs,z,aH eZ h9⟩⟩⟩;exact ci (V.af.co (xK.trans eO)) (ci tT (V.af.co eZ))
 .kernel_rfl
end
end Go.Proofs.YtfghplfgndppfaaGreatDoor
