/- Texts of this claim, joined: ClJ2, ClJ3, ClC1, ClC2, ClD1, ClJ4, ClD2. -/
import Derived.Test.YtfghplfgndppfaaGreatDoorZ24
set_option linter.unusedVariables false
set_option linter.unusedSimpArgs false
set_option maxRecDepth 100000
set_option maxHeartbeats 8000000
namespace Go.Proofs.YtfghplfgndppfaaGreatDoor
open Go.Proofs.Tryz
section
open Go.RowKit Go.Maps
theorem DU{α:Type}(l:List α)(i:Nat)(a:α)(h:l[i]?=some a):l.set i a=l:=by
 obtain⟨h1,h2⟩:=List.getElem?_eq_some_iff.1 h;rw[<- h2];exact List.set_getElem_self h1
theorem jB.T'{K X:aD}{w:World}{sz n:Nat}{A:Option Addr}{xs:List Value}(h:jB K w sz A n xs)(hA:cy K X w):0<n->∀k,bW A k->¬X k:=λh0 k ⟨a,e1,e2⟩ hX=>by
 subst e2;exact hA.ap _ hX (h.k h0 a e1)
section
variable{B i:Nat}{g:dI}{c:cr}{q:dU}{d:bA}{K X:aD}{w:World}
theorem Y1{W:World}{B t sz rc:Nat}{A:Option Addr}{xs:List Value}(h:W.ownsRow B t sz (.slice A 1 rc) 1 xs):∃b cs,A=some ⟨b,0,none⟩/\B<=b/\1<=rc/\W.heap[b]?=some (.cells cs t (0,0))/\cs.size=rc*sz/\cs.toList.take (1*sz)=xs/\rc<=maxLen:=by
 rcases h.2 with⟨h1,h2⟩|⟨b,cap,cur,hv,hb,hh,h1,h2,h3,h4⟩
 .omega
 .injection hv with e1 e2 bG;subst bG;exact⟨b,cur,e1,hb,h1,hh,h3,h4,h2⟩
structure Ua(B:Nat)(g:dI)(c:cr)(i:Nat)(q:dU)(d:bA)(j:dT)(K X:aD)(w:World)(aoY ao7:Nat):Prop where
 du:q.du= [aoY]
 J:q.J=some ⟨ao7,0,none⟩
 fA:1<=q.fA
 cell:w.cell? ⟨ao7,0,none⟩=some (mE aoY)
 free:w.frozen? ⟨ao7,0,none⟩=false
 call:∃aA:aD,gJ B aoY j K aA w/\cy K aA w/\(∀k,aA k->X k)/\∀(j':dT)(K' cA:aD)(w':World),gJ B aoY j' K' cA w'->aO K aA w K' cA w'->cy K' cA w'->∃X',aU B g { c with aw:=c.aw.set i { d with jobs:= [j'] } } K' X' w'/\aO K X w K' X' w'
theorem aiO{aoY:Nat}{j:dT}{ep:aD}(h:bF (calls B [aoY] [j]) K ep w):gJ B aoY j K ep w:=by
 obtain⟨um,aph,h1,h2,hd,hx⟩:=h;have e:um=ep:=by
  funext k
  apply propext;rw[hx k];exact⟨.inl,λh=>h.elim id (λh=>absurd h (h2 k))⟩
 exact e▸h1
theorem TT{aoY:Nat}{j:dT}{ep:aD}(h:gJ B aoY j K ep w):bF (calls B [aoY] [j]) K ep w:=⟨ep,λ_=>False,h,λ_ h=>h,λ_ _ h=>h,λk=>(or_false _).symm▸Iff.rfl⟩
theorem HJ{aG aoY:Nat}{j':dT}(mu:q.du= [aoY]):(ez B i aG q d).set 5 (bF (calls B [aoY] [j']))=ez B i aG q { d with jobs:= [j'] } :=by
 have e:o0 B q.sp { d with jobs:= [j'] } =o0 B q.sp d:=o0.other d.up d.now d.bE [j'];unfold ez;rw[e,mu];rfl
theorem aU.eE(H:aU B g c K X w)(hq:g.aN[i]?=some q)(hd:c.aw[i]?=some d)(hu:d.up=true){j:dT}(hj:d.jobs= [j]):∃aoY ao7,Ua B g c i q d j K X w aoY ao7:=by
 have hjl:=H.ok.jobs i q d hq hd;rw[hj] at hjl;obtain⟨aoY,vA⟩:∃aoY,q.du= [aoY]:=by
  match h:q.du,hjl with
  | [x],_=>exact⟨x,rfl⟩
 obtain⟨aA,h1,a1,x1,put⟩:=H.BP hq hd hu;obtain⟨ng,aiP,h4,a4,aiQ⟩:=bF.part mo h1 a1 (i:=4) rfl;obtain⟨ep,DM,h5,a5,uL⟩:=bF.part mo h1 a1 (i:=5) rfl;obtain⟨hr,tp⟩:=h4;rw[vA] at hr;obtain⟨b,cs,e1,e2,bG,bT,dt,jV,-⟩:=Y1 hr;have hc:cs[0]?=some (mE aoY):=by
  have:cs.toList.take 1= [mE aoY]:=jV;have h9:=congrArg (λl:List Value=>l[0]?) this;simpa using h9
 have SC:bF (calls B [aoY] [j]) K ep w:=by rw[<- vA,<- hj];exact h5
 refine⟨aoY,b,vA,e1,bG,(aoW bT 0).trans hc,ay bT 0,ep,aiO SC,a5,λk hk=>x1 k ((uL.iff k).2 (.inl hk)),λj' K' cA w' jz s' a'=>?_⟩;obtain⟨h6,iY,a6⟩:=uL.put (TT jz) s' a';rw[HJ vA] at h6;obtain⟨X',h7,gK⟩:=put q { d with jobs:= [j'] } K' _ w' rfl (by rw[vA];rfl) hu h6 iY a6;rw[DU g.aN i q hq] at h7;exact⟨X',h7,gK⟩
theorem Ub(H:aU B g c K X w)(L:Option Addr)(n lc:Nat)(vs:List em)(hr:Rd w w.heap.size 6 L n (dO vs))(xb:∀k,bW L k->¬X k)(hvs:∀v∈vs,Rd w w.heap.size 5 v.A v.m.l.length (bl v.m.l)/\(∀k,bW v.A k->¬X k/\k<w.heap.size)/\gT v.m=true)(hlen:c.net.length+n<300):
 Calls prog 49 #[.pointer (some ⟨g.gc,0,none⟩),.slice L n lc] w λe w'=>e= .returned (.tuple #[])/\∃(ms':List em)(K' X':aD),aU B { g with ms:=ms' } { c with net:=kO c.net (vs.map (·.m)) } K' X' w'/\aO K X w K' X' w':=by
 obtain⟨cD,h2,a2,x2,ex,put⟩:=H.TF;have hml:g.ms.length=c.net.length:=by rw[<- H.ok.net,iZ]
 refine(apU h2 a2 H.flat.bL rfl ex L n lc vs hr (λk hk h=>xb k hk (x2 k h)) (λv hv=>⟨(hvs v hv).1,λk hk=>⟨λh=>((hvs v hv).2.1 k hk).1 (x2 k h),((hvs v hv).2.1 k hk).2⟩,(hvs v hv).2.2⟩) (by rw[hml];exact hlen)).mono ?_;rintro e w'⟨rfl,K',X',us,pG,hn,hs,ha⟩;obtain⟨lI,h3,s3⟩:=put (g.ms++us) K' X' w' hn hs ha;refine⟨rfl,g.ms++us,K',lI,?_,s3⟩;have hnl:n=vs.length:=by have:=hr.1;rw[zy] at this;omega
 have gZ:∀(l:List eU)(net:List eU),net.length+l.length<300->(∀m∈l,gT m=true)->kO net l=net++l:=by
  intro l;induction l with
  |nil=>intro net _ _;simp[kO]
  |cons m r ih=>
   intro net h1 h2;rw[iu] at h1;have e1:A8 net m=net++[m]:=by
    unfold A8;rw[if_pos (h2 m gN),if_neg (by omega)]
   have e2:=ih (net++[m]) (by rw[dG,List.length_singleton];omega) (λy hy=>h2 y (kS _ hy));unfold kO at e2|-;rw[List.foldl_cons,e1,e2,jg];rfl
 have e:(g.ms++us).map (·.m)=kO c.net (vs.map (·.m)):=by
  rw[gZ _ _ (by rw[iZ,<- hnl];exact hlen) (λm hm=>by
   obtain⟨v,hv,rfl⟩:=List.mem_map.1 hm;exact(hvs v hv).2.2),kU,pG,H.ok.net]
 rw[e] at h3;exact h3
theorem aiR(H:aU B g c K X w)(hq:g.aN[i]?=some q)(hd:c.aw[i]?=some d)(hu:d.up=true){j:dT}(hj:d.jobs= [j]){aoY ao7 bm:Nat}(J:Ua B g c i q d j K X w aoY ao7)(v:em)(df:Gk i j v.m)(ht:v.m.t=i)(hv:jB K w 5 v.A v.m.l.length (bl v.m.l))(hlen:v.m.l.length<=1000)(hok:gT v.m=true)(hb:w.heap[bm]?=some (.cells #[.int .i64 v.m.k,.int .i64 v.m.f,.int .i64 v.m.t,.int .u64 v.m.id,.int .u64 v.m.n,.slice v.A v.m.l.length v.c] 135 (0,0))):
 Calls prog 55 #[mE aoY,.pointer (some ⟨bm,0,none⟩)] w λe w'=>e= .returned (.slice none 0 0)/\∃(K' X':aD),aU B g { c with aw:=c.aw.set i { d with jobs:= [gG j v.m] } } K' X' w'/\aO K X w K' X' w':=by
 obtain⟨aA,h1,a1,x1,put⟩:=J.call;have uA:=aoU (aiL h1 a1 v df ht hv.rd (hv.T' a1) hlen hok);have aS:∀(w':World)(K' cA:aD),gJ B aoY (gG j v.m) K' cA w'->aO K aA w K' cA w'->cy K' cA w'->∃(K' X':aD),aU B g { c with aw:=c.aw.set i { d with jobs:= [gG j v.m] } } K' X' w'/\aO K X w K' X' w':=λw' K' cA h s a=>by
  obtain⟨X',h7,gK⟩:=put _ K' cA w' h s a;exact⟨K',X',h7,gK⟩
 have dz:=aoU aS;obtain⟨m0,m1,m2,m3,m4,m5⟩:=iQ hb;have hm:=aiE;unfold mE;clear aS put H hq hd hj J df hv hlen hok hb h1 a1 x1 ht hu;go_enter func55,ntmps55
 go_wp2_with fail;refine uA.out.mono ?_;rintro e w1⟨rfl,K',cA,h1,h2,h3⟩;have Km:=aoU (dz.out w1 K' cA h1 h2 h3);clear h1 h2 h3 dz uA;go_wp2_with fail;go_ret;exact⟨rfl,Km.out⟩
end
section
variable{B i:Nat}{g:dI}{c:cr}{q:dU}{d:bA}{K X:aD}{w:World}
theorem aU.Gr(H:aU B g c K X w)(hq:g.aN[i]?=some q)(hd:c.aw[i]?=some d)(hu:d.up=true):w.heap[q.aE]?=some (.cells (ox q) 66 (0,0)):=by
 have h:=(H.of hq hd).pl;rw[if_pos hu] at h;exact h
theorem Uc(hd:c.aw[i]?=some d): { c with aw:=c.aw.set i d } =c:=by rw[DU c.aw i d hd]
theorem aU.restore(H:aU B g c K X w)(hq:g.aN[i]?=some q)(hd:c.aw[i]?=some d)(hu:d.up=true):
 ∃X',aU B g c K X' (w.setCell ⟨q.aE,3,none⟩ (.slice q.J q.du.length q.fA))/\aO K X w K X' (w.setCell ⟨q.aE,3,none⟩ (.slice q.J q.du.length q.fA)):=by
 obtain⟨aA,h1,a1,x1,put⟩:=H.BP hq hd hu;obtain⟨aW,Gl,h0,a0,BQ⟩:=bF.part mo h1 a1 (i:=0) rfl;obtain⟨b1,s1⟩:=Dm (i:=3) h0 (.slice q.J q.du.length q.fA);obtain⟨h2,s2,a2⟩:=BQ.put b1 s1 (a0.same s1);have e:(ez B i c.aG q d).set 0 (nj B q.aE 66 ((ox q).setIfInBounds 3 (.slice q.J q.du.length q.fA)))=ez B i c.aG q d:=rfl;rw[e] at h2;obtain⟨X',h3,s3⟩:=put q d K _ _ rfl (H.ok.jobs i q d hq hd) hu h2 s2 a2;rw[DU g.aN i q hq,Uc hd] at h3;exact⟨X',h3,s3⟩
theorem aU.drop{j:dT}{aoY ao7:Nat}(H:aU B g c K X w)(hq:g.aN[i]?=some q)(hd:c.aw[i]?=some d)(hu:d.up=true)(hj:d.jobs= [j])(J:Ua B g c i q d j K X w aoY ao7):
 ∃X',aU B { g with aN:=g.aN.set i { q with du:= [] } } { c with aw:=c.aw.set i { d with jobs:= [] } } K X' ((w.setCell ⟨ao7,0,none⟩ .nilIface).setCell ⟨q.aE,3,none⟩ (.slice (some ⟨ao7,0,none⟩) 0 q.fA))/\aO K X w K X' ((w.setCell ⟨ao7,0,none⟩ .nilIface).setCell ⟨q.aE,3,none⟩ (.slice (some ⟨ao7,0,none⟩) 0 q.fA)):=by
 obtain⟨aA,h1,a1,x1,put⟩:=H.BP hq hd hu;obtain⟨Gs,vm,h0,h4,y0,oe,Ud,tP⟩:=bF.two (j:=3) mo h1 a1 rfl;obtain⟨hr,tp⟩:=h4;rw[J.du,J.J] at hr;obtain⟨b,cs,e1,e2,bG,bT,dt,jV,kg⟩:=Y1 hr;injection e1 with e1;injection e1 with e1;subst e1;have hgb:q.aE≠ao7:=λe=>by
  have h9:=h0.1;rw[e] at h9;exact absurd (cS h9 bT) (by decide)
 obtain⟨wa,cM⟩:=bB (w.setCell ⟨ao7,0,none⟩ .nilIface)
 have hs1:=bM w ao7 0 .nilIface _ _ bT;have k1:V.af (λk=>k=ao7) w (w.setCell ⟨ao7,0,none⟩ .nilIface):=aoZ _ _ ao7 0 _ (V.af.refl _ _);rw[<- cM] at hs1 k1|-;have ub:=cL k1 h0.1 hgb;have hs2:=bM wa q.aE 3 (.slice (some ⟨ao7,0,none⟩) 0 q.fA) _ _ ub;have k2:V.af (λk=>k=q.aE) wa (wa.setCell ⟨q.aE,3,none⟩ (.slice (some ⟨ao7,0,none⟩) 0 q.fA)):=aoZ _ _ q.aE 3 _ (V.af.refl _ _);have ao0:=cL k2 hs1 (λe=>hgb e.symm);generalize wa.setCell ⟨q.aE,3,none⟩ (.slice (some ⟨ao7,0,none⟩) 0 q.fA)=wb at *;have g0:∀k,Gs k↔k=q.aE:=h0.2.2
 have g4:∀k,vm k↔k=ao7:=λk=>(tp k).trans (by
  rw[J.J];exact⟨λ⟨a,ha,hk⟩=>by injection ha with ha;rw[<- hk,<- ha],λh=>⟨_,rfl,h.symm⟩⟩)
 have kk:V.af (λk=>Gs k\/vm k) w wb:=ci (eQ k1 (λk h=> .inr ((g4 k).2 h))) (eQ k2 (λk h=> .inl ((g0 k).2 h)));obtain⟨cD,h2,s2,a2⟩:=tP (nj B q.aE 66 (ox { q with du:= [] })) (Row B 132 1 q.J 0 q.fA []) (λk=>k=q.aE) (λk=>k=ao7) wb
  ⟨by unfold ox;rw[show({ q with du:= [] } :dU).J=some ⟨ao7,0,none⟩ from J.J];exact hs2,h0.2.1,λk=>Iff.rfl⟩
  ⟨by rw[J.J];exact⟨rfl,.inr ⟨ao7,q.fA,_,rfl,e2,ao0,Nat.zero_le _,kg,by rw[Array.size_setIfInBounds];exact dt,by simp⟩⟩,λk=>by
   rw[J.J];exact⟨λh=>⟨_,rfl,h.symm⟩,λ⟨a,ha,hk⟩=>by injection ha with ha;rw[<- hk,<- ha]⟩⟩
  (λk e e'=>hgb (e.symm.trans e')) kk (λk h=> .inl (.inl ((g0 k).2 h))) (λk h=> .inl (.inr ((g4 k).2 h)))
 have hl2:∀P∈(nj B q.aE 66 (ox { q with du:= [] })::((ez B i c.aG q d).tail.set 3 (Row B 132 1 q.J 0 q.fA []))),bH B P:=by
  intro P hP;rcases List.mem_cons.1 hP with rfl|hP
  .exact bH.blk
  .rcases List.mem_or_eq_of_mem_set hP with hP|rfl
   .exact mo P (List.mem_of_mem_tail hP)
   .exact bH.row
 obtain⟨ep,DM,h5,vM⟩:=bF.yA (i:=5) (P:=bF (calls B q.du d.jobs)) hl2 h2 rfl;have h6:=vM.put (P':=bF (calls B [] [])) (cA:=λ_=>False) (Y:=λ_=>False) (w':=wb) (λk h=>h) (V.af.refl _ _) (λk _ h=>h) (λk _ h=>h) (λk h=>h.elim);have e:(nj B q.aE 66 (ox { q with du:= [] })::((ez B i c.aG q d).tail.set 3 (Row B 132 1 q.J 0 q.fA []))).set 5 (bF (calls B [] []))=ez B i c.aG { q with du:= [] } { d with jobs:= [] } :=by
  have e9:o0 B q.sp { d with jobs:= [] } =o0 B q.sp d:=o0.other d.up d.now d.bE [];unfold ez;rw[e9];rfl
 rw[e] at h6;have iY:=s2.less (Y:=λk=>False\/DM k) (λk h=>(vM.iff k).2 (.inr (h.resolve_left id)));obtain⟨X',h7,gK⟩:=put { q with du:= [] } { d with jobs:= [] } K _ wb rfl rfl hu h6 iY (a1.same iY);exact⟨X',h7,gK⟩
theorem aiS(H:aU B g c K X w)(hq:g.aN[i]?=some q)(hd:c.aw[i]?=some d)(hu:d.up=true)(hj:d.jobs= [])(m:eU)(F:Value):
 Calls prog 54 #[.pointer (some ⟨g.gc,0,none⟩),.pointer (some ⟨q.aE,0,none⟩),F] w λe w'=>e= .returned (.tuple #[])/\∃(g':dI)(K' X':aD),g'.gc=g.gc/\aU B g' { c with aw:=c.aw.set i { d with jobs:=(mj d.jobs m).1 },cZ:=c.cZ++(mj d.jobs m).2 } K' X' w'/\aO K X w K' X' w':=by
 have hjl:q.du.length=0:=by have:=H.ok.jobs i q d hq hd;rw[hj] at this;exact this
 have dJ:=H.Gr hq hd hu;obtain⟨X',h1,s1⟩:=H.restore hq hd hu;rw[hjl] at h1 s1;have e:({ c with aw:=c.aw.set i { d with jobs:=(mj d.jobs m).1 },cZ:=c.cZ++(mj d.jobs m).2 } :cr)=c:=by
  have e1:({ d with jobs:=(mj d.jobs m).1 } :bA)=d:=by rw[hj];show({ d with jobs:= [] } :bA)=d;rw[<- hj]
  have e2:(mj d.jobs m).2= []:=by rw[hj];rfl
  rw[e1,e2,List.append_nil,DU c.aw i d hd]
 rw[e];have c3:w.cell? ⟨q.aE,3,none⟩=some (.slice q.J 0 q.fA):=(aoW dJ 3).trans (by show some (Value.slice q.J q.du.length q.fA)=_;rw[hjl]);have f3:=ay dJ 3;have dz:=aoU (show∃(g':dI)(K' X':aD),g'.gc=g.gc/\aU B g' c K' X' (w.setCell ⟨q.aE,3,none⟩ (.slice q.J 0 q.fA))/\aO K X w K' X' (w.setCell ⟨q.aE,3,none⟩ (.slice q.J 0 q.fA)) from⟨g,K,X',rfl,h1,s1⟩);have iT:=aoU (aiI q.J q.fA w);clear h1 s1 e dJ H hq hd hj hjl hu;go_enter func54,ntmps54
 go_wp2_with fail;go_loopw[15] (λk wr=>k= .int .i64 0/\wr=w) (λk _=>0)
 case atStart=>exact⟨rfl,rfl⟩
 case round=>
  obtain⟨rfl,rfl⟩:=hrel;go_wp2_with fail;refine iT.out.mono ?_;rintro e w1⟨rfl,rfl⟩;go_wp2_with fail;exact bodyPost_end (kV rfl _ _ _) rfl ⟨rfl,dz.out⟩
end
theorem aiT:jr prog 64 132 1 16:=jr.mk' underlying64 (z:= .nilIface) (by kernel_rfl) rfl (by decide)
section
variable{B i:Nat}{g:dI}{c:cr}{q:dU}{d:bA}{K X Y:aD}{w w':World}
theorem aiU(hl:bF (apa B g c) K X w)(hA:cy K X w)(hq:g.aN[i]?=some q)(hd:c.aw[i]?=some d)(hu:d.up=true):
 ∃aA:aD,bF (ez B i c.aG q d) K aA w/\cy K aA w/\(∀k,aA k->X k)/\∀(q':dU)(d':bA)(K' cA:aD)(w':World),q'.aE=q.aE->d'.up=true->bF (ez B i c.aG q' d') K' cA w'->aO K aA w K' cA w'->cy K' cA w'->
  ∃X',bF (apa B { g with aN:=g.aN.set i q' } { c with aw:=c.aw.set i d' }) K' X' w'/\aO K X w K' X' w'/\cy K' X' w':=by
 obtain⟨ep,DM,h5,a5,uL⟩:=bF.part qB hl hA (i:=5) rfl;have xv:=IY (B:=B) (aG:=c.aG) 0 i g.aN c.aw q d hq hd;rw[dV] at xv;obtain⟨aA,vC,h1,a1,oC⟩:=bF.part (Dp _ _ _) h5 a5 xv;have Ue:bF (ez B i c.aG q d) K aA w:=by unfold lm at h1;rw[if_pos hu] at h1;exact h1
 refine⟨aA,Ue,a1,λk hk=>(uL.iff k).2 (.inl ((oC.iff k).2 (.inl hk))),λq' d' K' cA w' qM qL uu s1 J4=>?_⟩;have Uf:lm B i c.aG q' d' K' cA w':=by unfold lm;rw[if_pos qL];exact uu
 obtain⟨h6,iY,a6⟩:=oC.put Uf s1 J4;have bC:=IZ (B:=B) (aG:=c.aG) 0 i g.aN c.aw q' d';rw[dV] at bC;rw[bC] at h6;obtain⟨h7,gK,a7⟩:=uL.put h6 iY a6;have e:(apa B g c).set 5 (bF (mq B c.aG 0 (g.aN.set i q') (c.aw.set i d')))=apa B { g with aN:=g.aN.set i q' } { c with aw:=c.aw.set i d' } :=by
  unfold apa jC;dsimp only;rw[TE pR g.aN i q q' hq (by unfold pR;rw[qM]),List.length_set];rfl
 rw[e] at h7;exact⟨_,h7,gK,a7⟩
theorem aiV{aoY:Nat}{ca:dT}(hl:bF (apa B g c) K X w)(hq:g.aN[i]?=some q)(hd:c.aw[i]?=some d)(hu:d.up=true)(mu:q.du= [aoY])(hj:d.jobs= [])(hC:gJ B aoY ca K Y w)(DV:∀k,Y k->¬X k):
 ∃X',bF (apa B g { c with aw:=c.aw.set i { d with jobs:= [ca] } }) K X' w/\∀k,X' k↔(X k\/Y k):=by
 obtain⟨ep,DM,h5,vM⟩:=bF.yA qB hl (i:=5) rfl;have xv:=IY (B:=B) (aG:=c.aG) 0 i g.aN c.aw q d hq hd;rw[dV] at xv;obtain⟨aA,vC,h1,p1⟩:=bF.yA (Dp _ _ _) h5 xv;unfold lm at h1;rw[if_pos hu] at h1;obtain⟨zZ,Og,h9,R1⟩:=bF.yA mo h1 (i:=5) rfl;rw[mu,hj] at h9;have aiW:∀k,¬zZ k:=h9;have nf:∀k,(λ_:Nat=>False) k->False:=λk h=>h
 have Oh:∀k,aA k↔Og k:=λk=>(R1.iff k).trans ⟨λh=>h.elim (λh=>absurd h (aiW k)) id,.inr⟩
 have hx1:∀k,ep k->X k:=λk hk=>(vM.iff k).2 (.inl hk)
 have h10:=R1.put (P':=bF (calls B [aoY] [ca])) (cA:=Y) (Y:=λ_=>False) (TT hC) (V.af.refl _ _) (λk _ h=>h) (λk _ h=>h) (λk hk hz=>DV k hk (hx1 k ((p1.iff k).2 (.inl ((Oh k).2 hz)))));rw[HJ mu] at h10;have h11:=p1.put (P':=lm B i c.aG q { d with jobs:= [ca] }) (cA:=λk=>Y k\/Og k) (Y:=λ_=>False) (by unfold lm;rw[if_pos (show({ d with jobs:= [ca] } :bA).up=true from hu)];exact h10) (V.af.refl _ _) (λk _ h=>h) (λk _ h=>h)
  (λk hk hz=>hk.elim (λhk=>DV k hk (hx1 k ((p1.iff k).2 (.inr hz)))) (λhk=>p1.ap k ((Oh k).2 hk) hz))
 have bC:=IZ (B:=B) (aG:=c.aG) 0 i g.aN c.aw q { d with jobs:= [ca] };rw[dV,DU g.aN i q hq] at bC;rw[bC] at h11;have h12:=vM.put (P':=bF (mq B c.aG 0 g.aN (c.aw.set i { d with jobs:= [ca] }))) (cA:=λk=>(Y k\/Og k)\/vC k) (Y:=λ_=>False) h11 (V.af.refl _ _) (λk _ h=>h) (λk _ h=>h)
  (λk hk hz=>hk.elim (λhk=>hk.elim (λhk=>DV k hk ((vM.iff k).2 (.inr hz))) (λhk=>vM.ap k ((p1.iff k).2 (.inl ((Oh k).2 hk))) hz)) (λhk=>vM.ap k ((p1.iff k).2 (.inr hk)) hz))
 refine⟨_,h12,λk=>?_⟩;show(((Y k\/Og k)\/vC k)\/DM k)↔(X k\/Y k);rw[vM.iff k,p1.iff k,Oh k];constructor
 .rintro (((h|h)|h)|h);exact .inr h;exact .inl (.inl (.inl h));exact .inl (.inl (.inr h));exact .inl (.inr h)
 .rintro (((h|h)|h)|h);exact .inl (.inl (.inr h));exact .inl (.inr h);exact .inr h;exact .inl (.inl (.inl h))
theorem aiX(H:aU B g c K X w)(hq:g.aN[i]?=some q)(hd:c.aw[i]?=some d)(hu:d.up=true)(hi:i<=6)(hls:d.bE.ls<=d.bE.aR)(su:d.bE.aR<=1000)(hme:d.ao.aM<=1000000/\d.ao.ce<=1000000/\d.ao.a<=1000000/\d.ao.le<=1000000)(hmb:(kF { d.ao with le:=d.bE.aR+16 }).length<=5000)(hok:J0 d):
 Calls prog 23 #[.pointer (some ⟨q.aE,0,none⟩)] w λe w'=>e= .returned (.tuple #[.int .u64 ((lL i d).2:Int),.int .i64 0])/\∃(q':dU)(K' X':aD),q'.aE=q.aE/\q'.du=q.du/\aU B { g with aN:=g.aN.set i q' } { c with aw:=c.aw.set i (lL i d).1 } K' X' w'/\aO K X w K' X' w':=by
 obtain⟨aA,h1,a1,x1,put⟩:=H.BP hq hd hu;have uu:=hok.am;have an2:=hok.mn;have xO:=hok.ne;have an3:=hok.cs;refine(ad8 h1 a1 hi hls (by omega) (by unfold qC;omega) (by omega) (by omega) (by omega) (by omega) (by omega)).mono ?_;rintro e w'⟨rfl,p',K',cA,h2,s2,a2⟩;have hj:(lL i d).1.jobs=d.jobs/\(lL i d).1.up=d.up:=by
  unfold lL qy;split <;>exact⟨rfl,rfl⟩
 obtain⟨X',h3,s3⟩:=put { q with sp:=p' } (lL i d).1 K' cA w' rfl (by rw[hj.1];exact H.ok.jobs i q d hq hd) (hj.2.trans hu) h2 s2 a2;exact⟨rfl,{ q with sp:=p' },K',X',rfl,rfl,h3,s3⟩
theorem aiY{aoY:Nat}{ca:dT}(H:aU B g c K X w)(hq:g.aN[i]?=some q)(hd:c.aw[i]?=some d)(hu:d.up=true)(hj:d.jobs= [])(hC:gJ B aoY ca K Y w)(R2:cy K Y w)(DV:∀k,Y k->¬X k)(L:Option Addr)(n lc:Nat)(vs:List em)(hr:Rd w w.heap.size 6 L n (dO vs))(xb:∀k,bW L k->¬(X k\/Y k))(A6:∀k,bW L k->k<w.heap.size)(hvs:∀v∈vs,Rd w w.heap.size 5 v.A v.m.l.length (bl v.m.l)/\(∀k,bW v.A k->¬(X k\/Y k)/\k<w.heap.size)/\gT v.m=true)(hlen:c.net.length+n<300):
 Calls prog 26 #[.pointer (some ⟨g.gc,0,none⟩),.int .i64 i,mE aoY,.slice L n lc] w λe w'=>e= .returned (.tuple #[])/\∃(g':dI)(K' X':aD),g'.gc=g.gc/\aU B g' { c with aw:=c.aw.set i { d with jobs:= [ca] },net:=kO c.net (vs.map (·.m)) } K' X' w'/\aO K (λk=>X k\/Y k) w K' X' w':=by
 have P:=H.of hq hd;obtain⟨hi,⟨pW,tS,hP,hrc⟩,dJ⟩:=P;rw[if_pos hu] at dJ;have hjl:q.du.length=0:=by have:=H.ok.jobs i q d hq hd;rw[hj] at this;exact this
 have Ug:q.du= []:=List.eq_nil_of_length_eq_zero hjl;obtain⟨aA,h1,a1,x1,put⟩:=aiU H.lay H.jA hq hd hu;obtain⟨Gs,vm,h0,h4,y0,oe,Ud,tP⟩:=bF.two (j:=3) mo h1 a1 rfl;have hrow:w.ownsRow B 132 1 (.slice q.J 0 q.fA) 0 []:=by have:=h4.1;rw[hjl,Ug] at this;exact this
 have g0:∀k,Gs k↔k=q.aE:=h0.2.2;have g4:∀k,vm k↔bg q.J k:=h4.2;have Gq:((i:Int)<(g.aN.length:Int)):=by omega
 have c0:w.cell? ⟨g.gc,0,none⟩=some (.slice (some ⟨pW,tS,none⟩) g.aN.length g.pc):=(aoW H.flat.bL 0).trans (by rw[<- hP];rfl);have c3:(ox q)[3]?=some (.slice q.J 0 q.fA):=by show some (Value.slice q.J q.du.length q.fA)=_;rw[hjl]
 have aiZ:¬bg q.J q.aE:=λh=>Ud _ ((g0 _).2 rfl) ((g4 _).2 h)
 have cn:=H.flat.bL;have MJ:g.gc≠q.aE:=λe=>by rw[e] at cn;exact absurd (cS cn dJ) (by decide)
 have ai0:¬bg q.J g.gc:=λh=>by
  obtain⟨cs,z,q1⟩:=iL hrow h;exact absurd (cS cn q1) (by decide)
 obtain⟨an4,an5,Oi⟩:∃cs z,w.heap[pW]?=some (.cells cs 59 z):=by
  obtain⟨an6,an7,hh,-⟩:=bF.yA qB H.lay (i:=1) rfl;exact iL hh.1 ⟨_,hP,rfl⟩
 have ai1:pW≠q.aE:=λe=>by rw[e] at Oi;exact absurd (cS Oi dJ) (by decide)
 have ai2:¬bg q.J pW:=λh=>by
  obtain⟨cs,z,q1⟩:=iL hrow h;exact absurd (cS Oi q1) (by decide)
 have hBw:B<=w.heap.size:=by have h1:=(H.lt H.xu).1;have h2:=(H.lt H.xu).2;omega
 have u5:∀k,Y k->k<w.heap.size:=λk hk=>(bH.call.lt hC hk).2
 have aS:∀(ag:World)(L':Option Addr)(rc':Nat),ag.heap[q.aE]?=some (.cells ((ox q).setIfInBounds 3 (.slice L' 1 rc')) 66 (0,0))->ag.ownsRow B 132 1 (.slice L' 1 rc') 1 [mE aoY]->(∀k,bg L' k->bg q.J k\/w.heap.size<=k)->V.af (λk=>k=q.aE\/bg q.J k) w ag->
  ∃(q':dU)(X':aD),q'.aE=q.aE/\aU B { g with aN:=g.aN.set i q' } { c with aw:=c.aw.set i { d with jobs:= [ca] } } K X' ag/\aO K (λk=>X k\/Y k) w K X' ag/\(∀k,X' k->(X k\/Y k)\/w.heap.size<=k):=λag L' rc' f1 f2 f3 hk=>by
  obtain⟨q',qV⟩:∃q':dU,q'= { q with du:= [aoY],J:=L',fA:=rc' } :=⟨_,rfl⟩
  obtain⟨cD,h2,s2,a2⟩:=tP (nj B q.aE 66 (ox q')) (Row B 132 1 L' 1 rc' [mE aoY]) (λk=>k=q.aE) (λk=>bg L' k) ag ⟨by rw[qV];exact f1,h0.2.1,λk=>Iff.rfl⟩ ⟨f2,λk=>Iff.rfl⟩
   (λk e hk2=>by
    have e:k=q.aE:=e;obtain⟨cs,z,q1⟩:=iL f2 hk2;rw[e] at q1;exact absurd (cS q1 f1) (by decide))
   (eQ hk (λk h=>h.imp (g0 k).2 (g4 k).2)) (λk h=> .inl (.inl ((g0 k).2 h))) (λk h=>(f3 k h).imp (λh=> .inr ((g4 k).2 h)) id)
  have e:(nj B q.aE 66 (ox q')::((ez B i c.aG q d).tail.set 3 (Row B 132 1 L' 1 rc' [mE aoY])))=ez B i c.aG q' d:=by
   rw[qV];unfold ez;rw[hj];rw[show({ q with du:= [aoY],J:=L',fA:=rc' } :dU).du= [aoY] from rfl,Ug];rfl
  have h2:bF (ez B i c.aG q' d) K cD ag:=by rw[<- e];exact h2
  obtain⟨lI,h3,s3,a3⟩:=put q' d K cD ag (by rw[qV]) hu h2 s2 a2;rw[Uc hd] at h3;have eM:(g.aN.set i q')[i]?=some q':=nC (gM hq);have Uh:gJ B aoY ca K Y ag:=bH.call.keep hC hk (λk hk2 h=>DV k hk2 (x1 k (h.elim (λh=>y0 k ((g0 k).2 h)) (λh=>oe k ((g4 k).2 h))))) (λk hk2 h=>a1.ap k (h.elim (λh=>y0 k ((g0 k).2 h)) (λh=>oe k ((g4 k).2 h))) hk2)
  obtain⟨ng,h5,tp⟩:=aiV (i:=i) (q:=q') (aoY:=aoY) (ca:=ca) h3 eM hd hu (by rw[qV]) hj Uh (λk hk2 h=>(s3.aJ k h).elim (DV k hk2) (λh9=>by have:=u5 k hk2;omega));have Cu:∀k,ng k->(X k\/Y k)\/w.heap.size<=k:=λk h=>((tp k).1 h).elim (λh=>(s3.aJ k h).imp .inl id) (λh=> .inl (.inr h))
  refine⟨q',ng,by rw[qV],⟨⟨H.ok.net,H.ok.cZ,H.ok.jf,?_,λk cP d2 BY BZ=>?_⟩,h5,⟨λk hk2 hK=>((tp k).1 hk2).elim (λh=>a3.ap k h hK) (λh=>R2.ap k h hK),a3.lt⟩⟩,⟨eQ s3.kept (λk h=> .inl h),Cu,λ_ h=>h,λ_ h=> .inl h⟩,Cu⟩
  .show(g.aN.set i q').length=(c.aw.set i _).length;rw[List.length_set,List.length_set];exact H.ok.aw
  .have BY:(g.aN.set i q')[k]?=some cP:=BY;have BZ:(c.aw.set i { d with jobs:= [ca] })[k]?=some d2:=BZ;by_cases hk2:k=i
   .subst hk2;rw[nC (gM hq)] at BY;rw[nC (gM hd)] at BZ;injection BY with BY;injection BZ with BZ;rw[<- BY,<- BZ,qV];rfl
   .rw[List.getElem?_set_ne (λh=>hk2 h.symm)] at BY BZ;exact H.ok.jobs k cP d2 BY BZ
 have hsend:∀(ag:World)(q':dU)(X':aD),V.af (λk=>k=q.aE\/bg q.J k) w ag->aU B { g with aN:=g.aN.set i q' } { c with aw:=c.aw.set i { d with jobs:= [ca] } } K X' ag->aO K (λk=>X k\/Y k) w K X' ag->(∀k,X' k->(X k\/Y k)\/w.heap.size<=k)->
  Calls prog 49 #[.pointer (some ⟨g.gc,0,none⟩),.slice L n lc] ag λe w'=>e= .returned (.tuple #[])/\∃(g':dI)(K' X':aD),g'.gc=g.gc/\aU B g' { c with aw:=c.aw.set i { d with jobs:= [ca] },net:=kO c.net (vs.map (·.m)) } K' X' w'/\aO K (λk=>X k\/Y k) w K' X' w':=λag q' X' hk h s hf=>by
  have hpx:∀k,(k=q.aE\/bg q.J k)->X k:=λk h=>x1 k (h.elim (λh=>y0 k ((g0 k).2 h)) (λh=>oe k ((g4 k).2 h)))
  have hn:∀k,¬(X k\/Y k)->k<w.heap.size->¬X' k:=λk h1 h2 h3=>(hf k h3).elim h1 (λh=>by omega)
  refine(Ub h L n lc vs (hr.sW (aZ _) (λ_ a ha hx=>xb a.block ⟨a,ha,rfl⟩ (.inl (hpx _ hx))) hk) (λk hk2=>hn k (xb k hk2) (A6 k hk2)) (λv hv=>⟨(hvs v hv).1.sW (aZ _) (λ_ a ha hx=>((hvs v hv).2.1 a.block ⟨a,ha,rfl⟩).1 (.inl (hpx _ hx))) hk,λk hk2=>⟨hn k ((hvs v hv).2.1 k hk2).1 ((hvs v hv).2.1 k hk2).2,cg ((hvs v hv).2.1 k hk2).2 hk.size⟩,(hvs v hv).2.2⟩) hlen).mono ?_;rintro e w'⟨rfl,ms',zu,tD,h7,gK⟩;exact⟨rfl,{ g with aN:=g.aN.set i q',ms:=ms' },zu,tD,rfl,h7,s.trans gK⟩
 have aK:=aoU aS;have Gt:=aoU hsend;have gP:=aoU c3;have xH:mE aoY= .iface 77 (.agg #[.pointer (some ⟨aoY,0,none⟩)]):=rfl;rw[xH] at aK|-;clear aS hsend H hq hd hu hj hC R2 DV hr xb A6 hvs hlen h1 a1 x1 put h0 h4 y0 oe Ud tP g0 g4 hi hjl Ug u5 c3 xH;go_enter func26,ntmps26
 go_wp2_with fail;apply V.iE (lT B q.aE 3 (ox q) 66 q.J 0 q.fA 132 1 [] [.iface 77 (.agg #[.pointer (some ⟨aoY,0,none⟩)])] (λW=>W.cell? ⟨g.gc,0,none⟩=some (.slice (some ⟨pW,tS,none⟩) g.aN.length g.pc)/\W.cell? ⟨pW,tS+i,none⟩=some (.pointer (some ⟨q.aE,0,none⟩))/\g.gc<W.heap.size/\pW<W.heap.size) 18 w) (by kernel_rfl) (by kernel_rfl)
  (λvs=>lT.start dJ hrow ⟨c0,hrc,(aB cn),(aB Oi)⟩ vs)
 .intro aF aoX;iterate 16 (apply V.az.ok;(· intro k vs W hS;obtain⟨d0,d1,-,-⟩:=hS.more;clear hS;go_simp;(try with_reducible rfl));(· rfl);simp only[au,Nat.reduceAdd])
  apply V.az.early 22 2
  .intro k vs ag hi hS;have c1:ag.cell? ⟨q.aE,3,none⟩=some (.slice q.J 0 q.fA):=(aoW (hS.blk hi) 3).trans gP.out;clear hS;go_simp
   with_reducible rfl
  .rfl
  simp only[au,Nat.reduceAdd];iterate 1 (apply V.az.ok;(· intro k vs W hS;clear hS;go_simp;(try with_reducible rfl));(· rfl);simp only[au,Nat.reduceAdd])
  apply V.az.cG;rfl
  .intro vs ag hS cY ah;have aS:=ah.out _ _ (lT.build hS (λW' yq h=>⟨(mv (a:=⟨g.gc,0,none⟩) (yq.block _ h.2.2.1)).trans h.1,(mv (a:=⟨pW,tS+i,none⟩) (yq.block _ h.2.2.2)).trans h.2.1,cg h.2.2.1 yq.size,cg h.2.2.2 yq.size⟩) (by rfl));have aK:=aoU aS;clear aS ah hS
   (try simp only[au,Nat.reduceAdd] at aK)
   go_simp;exact aK.out
  simp only[au,Nat.reduceAdd];apply V.az.cG;rfl
  .intro vs ag hS cY ah;obtain⟨Q,hv7,DT⟩:=hS.one rfl;have hsz:=hS.kept.size
   (try dsimp only at ah hv7|-)
   rw[hv7] at ah|-;refine uP _ _ _ aiT rfl rfl rfl (hS.row (by decide)) (Rd.own DT) (λu hu=>by rw[fi] at hu;rw[hu];rfl) (by omega) (by omega) (by omega) λv' ai ho' hg' m8=>?_
   obtain⟨L',rc',rfl⟩:=eL ho';exact ah.out _ _ (lT.append hS aiZ (λhK h=>⟨(mv (a:=⟨g.gc,0,none⟩) (hK.block _ h.2.2.1 ai0)).trans h.1,(mv (a:=⟨pW,tS+i,none⟩) (hK.block _ h.2.2.2 ai2)).trans h.2.1,cg h.2.2.1 hK.size,cg h.2.2.2 hK.size⟩) ho' hg' m8)
  simp only[au,Nat.reduceAdd];iterate 2 (apply V.az.ok;(· intro k vs W hS;clear hS;go_simp;(try with_reducible rfl));(· rfl);simp only[au,Nat.reduceAdd])
  apply V.az.call undef;rfl
  .intro vs ag hS cY ah;have c1:=(aoW (hS.blk (by decide)) 3).trans gP.out;have s1:=ay (hS.blk (by decide)) 3;obtain⟨L',rc',nV,B0⟩:=lT.store hS (by decide) (λv hK h=>⟨(mv (a:=⟨g.gc,0,none⟩) (hK.block _ h.2.2.1 MJ)).trans h.1,(mv (a:=⟨pW,tS+i,none⟩) (hK.block _ h.2.2.2 ai1)).trans h.2.1,cg h.2.2.1 hK.size,cg h.2.2.2 hK.size⟩);have aS:=ah.out _ B0;have aK:=aoU aS;clear ah aS hS B0
   (try dsimp only at aK nV|-)
   rw[nV] at aK|-;clear nV
   (try simp only[au,Nat.reduceAdd] at aK)
   go_simp;exact aK.out
  simp only[au,Nat.reduceAdd];apply V.az.fin;intro vs ag hS;obtain⟨L',rc',f1,f2,f3⟩:=hS.fin rfl;have oS:=hS.kept;refine aoX.out _ _ ?_;clear aoX hS
  (try dsimp only)
  obtain⟨q',X',e1,h9,yB,u6⟩:=aK.out ag L' rc' f1 f2 f3 oS;have dg:=aoU (Gt.out ag q' X' oS h9 yB u6);clear h9 yB u6 f1 f2 f3 oS aK Gt;go_wp2_with fail;refine dg.out.mono ?_;rintro e je⟨rfl,hp⟩;have ib:=aoU hp;clear hp dg;go_wp2_with fail;exact bodyPost_end (kV rfl _ _ _) rfl ⟨rfl,ib.out⟩
 .kernel_rfl
end
theorem i64_in(n:Int)(h: -9223372036854775808<=n/\n<=9223372036854775807):(Int64.ofInt n).toInt=n:=Int64.toInt_ofInt_of_le h.1 (by omega)
theorem u64_in(n:Nat)(h:n<=281474976710656):(UInt64.ofNat n).toNat=n:=UInt64.toNat_ofNat_of_lt' (by show n<18446744073709551616;omega)
section
variable{B i:Nat}{g:dI}{c:cr}{d:bA}{K X:aD}{w:World}{a:ol}
theorem aU.ids(H:aU B g c K X w):∃X',aU B g { c with ids:=c.ids+1 } K X' (w.setCell ⟨g.gc,3,none⟩ (.int .u64 ((c.ids:Int)+1)))/\aO K X w K X' (w.setCell ⟨g.gc,3,none⟩ (.int .u64 ((c.ids:Int)+1))):=by
 obtain⟨aW,Gl,h0,a0,BQ⟩:=bF.part qB H.lay H.jA (i:=0) rfl;obtain⟨b1,s1⟩:=Dm (i:=3) h0 (.int .u64 ((c.ids:Int)+1));obtain⟨h2,s2,a2⟩:=BQ.put b1 s1 (a0.same s1);have e:(apa B g c).set 0 (nj B g.gc 58 ((jC g c).setIfInBounds 3 (.int .u64 ((c.ids:Int)+1))))=apa B g { c with ids:=c.ids+1 } :=by
  have e1:(jC g c).setIfInBounds 3 (.int .u64 ((c.ids:Int)+1))=jC g { c with ids:=c.ids+1 } :=by
   unfold jC;simp
  rw[e1];rfl
 rw[e] at h2;exact⟨_,⟨⟨H.ok.net,H.ok.cZ,H.ok.jf,H.ok.aw,H.ok.jobs⟩,h2,a2⟩,s2⟩
def Kq(B i:Nat)(g:dI)(c:cr)(a:ol)(K X:aD)(w w':World):Prop:=∃(g':dI)(K' X':aD),g'.gc=g.gc/\aU B g' (gH c i a).1 K' X' w'/\aO K X w K' X' w'
theorem aja(hd:c.aw[i]?=some d)(hk:a.kind=3):gH c i a=({ c with aw:=c.aw.set i { d with jobs:=d.jobs++[lM c.aw.length i (c.ids+1) a 0] },net:=kO c.net (rW (lM c.aw.length i (c.ids+1) a 0)),ids:=c.ids+1 },c.ids+1):=by
 unfold gH;rw[hd];dsimp only;rw[if_pos hk];rfl
theorem ajb(hd:c.aw[i]?=some d)(hk:a.kind≠3)(hv:(lL i d).2≠0):gH c i a=({ c with aw:=c.aw.set i { (lL i d).1 with jobs:=(lL i d).1.jobs++[lM c.aw.length i (c.ids+1) a (lL i d).2] },net:=kO c.net (rW (lM c.aw.length i (c.ids+1) a (lL i d).2)),ids:=c.ids+1,jf:=c.jf++[⟨c.ids+1,a,0,(lL i d).2,[]⟩] },c.ids+1):=by
 unfold gH;rw[hd];dsimp only;rw[if_neg hk];rw[if_neg hv]
theorem gd{g1:dI}{c1:cr}{fO ep:aD}{w7:World}{q1:dU}{d1:bA}{aoY n id v:Nat}(mH:aU B g1 c1 fO ep w7)(hq1:g1.aN[i]?=some q1)(jX:c1.aw[i]?=some d1)(hu1:d1.up=true)(uN:d1.jobs= [])(hC:gJ B aoY (Do n i id a v) fO (λk=>k=aoY) w7)(Gw:¬ep aoY)(Kr:¬fO aoY)(Bw:n<=7)(ha:ya a=true)(hx: -9223372036854775808<=a.x/\a.x<=9223372036854775807)(hv:v<=281474976710656)(hk:a.kind=3\/a.kind=1)(Ul:a.kind=3->v=0)(Gx:∀m∈rW (lM n i id a v),gT m=true)(pU:c1.net.length<=200):
 Calls prog 27 #[.pointer (some ⟨aoY,0,none⟩)] w7 λe w'=>∃R rc,e= .returned (.slice R n rc)/\Calls prog 26 #[.pointer (some ⟨g1.gc,0,none⟩),.int .i64 i,mE aoY,.slice R n rc] w' λe2 w2=>e2= .returned (.tuple #[])/\
  ∃(g':dI)(K' X':aD),g'.gc=g1.gc/\aU B g' { c1 with aw:=c1.aw.set i { d1 with jobs:= [lM n i id a v] },net:=kO c1.net (rW (lM n i id a v)) } K' X' w2/\aO fO (λk=>ep k\/k=aoY) w7 K' X' w2:=by
 have y5:cy fO (λk=>k=aoY) w7:=⟨λk e h=>by have e:k=aoY:=e;rw[e] at h;exact Kr h,mH.jA.lt⟩
 have cn:=ha;simp only[ya,decide_eq_true_eq] at cn;have an8:aoY<w7.heap.size:=(bH.call.lt hC rfl).2;have fin:∀(R:Option Addr)(rc:Nat)(Aa:List em)(w':World),Rd w' w'.heap.size 6 R n (dO Aa)->(∀k,bW R k->w7.heap.size<=k/\k<w'.heap.size)->Aa.map (·.m)=rW (lM n i id a v)->(∀u∈Aa,Rd w' w'.heap.size 5 u.A u.m.l.length (bl u.m.l)/\∀k,bW u.A k->w7.heap.size<=k/\k<w'.heap.size)->aoV w7 w'->
  Calls prog 26 #[.pointer (some ⟨g1.gc,0,none⟩),.int .i64 i,mE aoY,.slice R n rc] w' λe2 w2=>e2= .returned (.tuple #[])/\
  ∃(g':dI)(K' X':aD),g'.gc=g1.gc/\aU B g' { c1 with aw:=c1.aw.set i { d1 with jobs:= [lM n i id a v] },net:=kO c1.net (rW (lM n i id a v)) } K' X' w2/\aO fO (λk=>ep k\/k=aoY) w7 K' X' w2:=λR rc Aa w' hR np Gy Gz hu=>by
  have no:∀k,w7.heap.size<=k->¬(ep k\/(λk=>k=aoY) k):=λk h1 h2=>h2.elim (λh=>by have:=(mH.lt h).2;omega) (λh=>by have h:k=aoY:=h;omega)
  refine(aiY (mH.up hu) hq1 jX hu1 uN (bH.call.up hC y5 hu) (y5.up hu) (λk e h=>by have e:k=aoY:=e;rw[e] at h;exact Gw h) R n rc Aa hR (λk hk=>no k (np k hk).1) (λk hk=>(np k hk).2) (λu aq=>⟨(Gz u aq).1,λk hk=>⟨no k ((Gz u aq).2 k hk).1,((Gz u aq).2 k hk).2⟩,Gx _ (by rw[<- Gy];exact List.mem_map_of_mem aq)⟩) (by omega)).mono ?_;rintro e w2⟨rfl,g',K',X',e1,h,s⟩;rw[Gy] at h;exact⟨rfl,g',K',X',e1,h,(aO.up hu).trans s⟩
 obtain⟨G,an9,A,ac,gs,h1,-⟩:=hC;have np:∀{R:Option Addr}{rc m:Nat}{xs:List Value}{w':World},w'.ownsRow w7.heap.size 135 6 (.slice R m rc) m xs->∀k,bW R k->w7.heap.size<=k/\k<w'.heap.size:=λh k ⟨ad,e1,e2⟩=>by
  subst e1 e2;exact jO h ad.block rfl
 rcases hk with hk|hk
 .have ht0:a.t=0/\a.x=0:=by omega
  refine(ai' aoY n i id a.s w7 Bw cn.1 _ h1 rfl rfl rfl (by show some (Value.int .i64 a.kind)=_;rw[hk];rfl) rfl (by show some (Value.int .u64 a.t)=_;rw[ht0.1];rfl) (by show some (Value.int .i64 a.x)=_;rw[ht0.2]) (by show some (Value.int .u64 v)=_;rw[Ul hk];rfl)).mono ?_;rintro e w'⟨R,rc,Aa,rfl,ho,Gy,yh,hu⟩;refine⟨R,rc,rfl,fin R rc Aa w' (Rd.own ho) (np ho) ?_ (λu aq=>yh u aq) hu⟩;rw[Gy];unfold rW
  congr 1
  funext z
  unfold CQ;rw[if_pos (show(lM n i id a v).c.kind=3 from hk)];rfl
 .have jN:¬a.kind=3:=by omega
  have hk2:¬a.kind=2:=by omega
  refine(ai9 aoY n i id (mR a v) w7 Bw (by unfold mR;rw[if_neg hk2];rfl) _ h1 rfl rfl rfl (by show some (Value.int .i64 a.kind)=_;rw[hk];rfl) ?_ ?_ ?_ ?_).mono ?_
  .show some (Value.int .i64 a.s)=some (.int .i64 (mR a v).s.toInt);unfold mR;rw[if_neg hk2,i64_in _ (by omega)]
  .show some (Value.int .u64 a.t)=some (.int .u64 ((mR a v).t.toNat:Int));unfold mR;rw[if_neg hk2,u64_in _ (by omega)]
  .show some (Value.int .i64 a.x)=some (.int .i64 (mR a v).x.toInt);unfold mR;rw[if_neg hk2,i64_in _ hx]
  .show some (Value.int .u64 v)=some (.int .u64 ((mR a v).v.toNat:Int));unfold mR;rw[if_neg hk2,u64_in _ hv]
  rintro e w'⟨R,rc,Aa,rfl,ho,Gy,yh,hu⟩;refine⟨R,rc,rfl,fin R rc Aa w' (Rd.own ho) (np ho) ?_ (λu aq=>⟨(yh u aq).1,λk hk=>?_⟩) hu⟩
  .rw[Gy];unfold rW
   congr 1
   funext z
   unfold CQ;rw[if_neg (show¬(lM n i id a v).c.kind=3 from jN)];rfl
  .obtain⟨h1,cs,z,h2⟩:=(yh u aq).2 k hk;exact⟨h1,(aB h2)⟩
theorem Um(H:aU B g c K X w)(df:zU c i a d):
 Calls prog 11 #[.pointer (some ⟨g.gc,0,none⟩),.int .i64 i,.agg #[.int .i64 a.kind,.int .i64 a.s,.int .u64 a.t,.int .i64 a.x]] w λe w'=>e= .returned (.tuple #[.int .u64 ((gH c i a).2:Int),.int .i64 0])/\Kq B i g c a K X w w':=by
 have hd:=df.nd;have hin:=(gM hd);have Ol:=df.n;obtain⟨n,hn⟩:=bB c.aw.length
 have dJ:g.aN.length=n:=by rw[H.ok.aw,hn]
 have aQ:=(aoV.refl w).alloc (.cells #[.int .i64 a.kind,.int .i64 a.s,.int .u64 a.t,.int .i64 a.x] 29);have aL:=bp w (.cells #[.int .i64 a.kind,.int .i64 a.s,.int .u64 a.t,.int .i64 a.x] 29);have xG:=aoU (λW (hW:aoV w W)=>T6 (H.up hW).flat i (by rw[dJ];omega));have n8:=aoU (λW=>YC a.kind a.s a.t a.x df.J1 W);have Y4:=aoU (λW (hW:aoV w W)=>aiN (H.up hW) hd df.up (by rw[df.jobs];decide) Ol);have Gv:decide (i<g.aN.length)=true:=by rw[dJ];simpa using (by omega:i<n)
 rw[Gv] at xG;have vE:¬X w.heap.size:=λh=>by have:=(H.lt h).2;omega
 have vF:¬K w.heap.size:=λh=>by have:=H.jA.lt _ h;omega
 have dr:=aoU H;have cO:=aoU df;have ff:=aoU hn;have vd:Hid (i<n):=aoU (by omega);have B2:Hid (n<=7):=aoU (by omega);have yx:=aoU aQ;clear H df hn hd hin Ol dJ Gv;go_enter func11,ntmps11
 go_wp2_with fail;generalize cM:w.alloc (.cells #[.int .i64 a.kind,.int .i64 a.s,.int .u64 a.t,.int .i64 a.x] 29)=wa at *;generalize w.heap.size=bc at *;clear cM;refine(xG.out wa aQ).mono ?_;rintro e w1⟨rfl,rfl⟩;obtain⟨m0,m1,m2,m3⟩:=qb aL;go_wp2_with fail;refine(n8.out w1).mono ?_;rintro e w2⟨rfl,aq⟩;have ao0:=aH aq aL;clear m0 m1 m2 m3;have m0:=aoW ao0 0;have Z1:=aoU (Y4.out w2 (aQ.trans aq));clear Y4 xG n8;go_wp2_with fail;refine Z1.out.mono ?_;rintro e w3⟨rfl,rfl⟩
 have H3:=dr.out.up (aQ.trans aq);have pr:aO K X w K X w3:=aO.up (aQ.trans aq);clear Z1;have ajc:a.kind=3\/a.kind=1:=cO.out.TD.imp id (λh=>h.1);have iJ:=cO.out.nd;rcases ajc with hk|hk
 .
  have ajd:((a.kind:Int)==3)=true:=by rw[hk];rfl
  obtain⟨c1,hc1⟩:∃c1:cr,c1=c:=⟨_,rfl⟩
  obtain⟨g1,DX⟩:∃g1:dI,g1=g:=⟨_,rfl⟩
  obtain⟨fO,tr⟩:∃fO:aD,fO=K:=⟨_,rfl⟩
  obtain⟨aA,pX⟩:∃aA:aD,aA=X:=⟨_,rfl⟩
  obtain⟨w4,qt⟩:=bB w3
  obtain⟨d1,B3⟩:∃d1:bA,d1=d:=⟨_,rfl⟩
  have H4:aU B g1 c1 fO aA w4:=by rw[hc1,DX,tr,pX,qt];exact H3
  have mF:aO K X w fO aA w4:=by rw[tr,pX,qt];exact pr
  have hg1:g1.gc=g.gc:=by rw[DX]
  have jX:c1.aw[i]?=some d1:=by rw[hc1,B3];exact iJ
  have hb4:w4.heap[bc]?=some (.cells #[.int .i64 a.kind,.int .i64 a.s,.int .u64 a.t,.int .i64 a.x] 29 (0,0))/\¬aA bc/\¬fO bc:=by rw[qt,pX,tr];exact⟨ao0,vE,vF⟩
  have zR:Hid (c1.ids=c.ids):=aoU (by rw[hc1]);have Un:Hid (c1.aw.length=n):=aoU (by rw[hc1,ff.out]);have mN:=aoU hc1;have Ks:=aoU B3;have fV:=aoU hk;clear hk hc1 DX tr pX B3 H3 pr aL ao0 vE vF aQ aq yx;rw[<- qt];clear qt m0;have m0:w4.cell? ⟨bc,0,none⟩=some (.int .i64 a.kind):=aoW hb4.1 0;obtain⟨q1,hq1⟩:=H4.get jX;have c3:w4.cell? ⟨g.gc,3,none⟩=some (.int .u64 c1.ids):=by rw[<- hg1];exact aoW H4.flat.bL 3
  have f3:w4.frozen? ⟨g.gc,3,none⟩=false:=by rw[<- hg1];exact ay H4.flat.bL 3
  have Uo:c1.ids<=1000000:=by rw[zR.out];exact cO.out.ids
  have yx:=aoU (Q5 g.gc 3 (c1.ids:Int) 1 w4 c3 f3 (by omega));obtain⟨ai,yl⟩:=bB (w4.setCell ⟨g.gc,3,none⟩ (.int .u64 ((c1.ids:Int)+1)))
  obtain⟨ep,H5,mG⟩:∃ep,aU B g1 { c1 with ids:=c1.ids+1 } fO ep ai/\aO fO aA w4 fO ep ai:=by
   rw[yl,<- hg1];exact aU.ids H4
  have kB:=mG.box hb4.1 hb4.2.1 hb4.2.2;have sF:=aoU yl;have nK:=aoU H4;have tI:=aoU (mF.trans mG);have rA:=aoU kB;have mr:=aoU H5;have Uq:=aoU hq1;have rD:=aoU hg1;clear c3 f3 yl H4 mF mG H5 kB hb4 hq1 hg1;go_wp2_with fail;refine yx.out.mono ?_;rintro e cH⟨rfl,rfl⟩;rw[<- sF.out];obtain⟨id,hid⟩:=bB (c1.ids+1)
  rw[show((c1.ids:Int)+1)=(id:Int) by omega];have DY:=aoU hid;have Ur:1<=id/\id<=1099511627776:=by omega
  have Kt:g1.aN.length=n:=by rw[mr.out.ok.aw];exact Un.out
  have Ea:ai.cell? ⟨g.gc,0,none⟩=some (.slice g1.P n g1.pc):=by
   rw[<- rD.out,<- Kt];exact aoW mr.out.flat.bL 0
  have hnew:∀W,aoV ai W->Calls prog 25 #[.int .i64 n,.int .i64 i,.int .u64 id,.agg #[.int .i64 a.kind,.int .i64 a.s,.int .u64 a.t,.int .i64 a.x],.int .u64 (0:Int)] W λe w'=>∃aoY,e= .returned (.tuple #[.pointer (some ⟨aoY,0,none⟩),.int .i64 0])/\gJ B aoY (Do n i id ⟨a.kind,a.s,a.t,a.x⟩ 0) fO (λk=>k=aoY) w'/\W.heap.size<=aoY/\aoV W w':=λW hW=>
   YD n i id a.kind a.s a.t a.x 0 ⟨by have:=vd.out;omega,B2.out⟩ vd.out Ur cO.out.J1 (by first|omega|(have:=Us.out;omega)) ⟨λ_=>fV.out,λ_=>rfl⟩ W (by
    have h1:=(mr.out.lt mr.out.xu).1;have h2:=(mr.out.lt mr.out.xu).2;have h3:=hW.size;omega)
  have Ku:∀W,aoV ai W->W.cell? ⟨g.gc,0,none⟩=some (.slice g1.P n g1.pc)/\W.heap[bc]?=some (.cells #[.int .i64 a.kind,.int .i64 a.s,.int .u64 a.t,.int .i64 a.x] 29 (0,0)):=λW hW=>
   ⟨(mv (a:=⟨g.gc,0,none⟩) (hW.block _ (Lib.lt_of_cell Ea))).trans Ea,aH hW rA.out.1⟩
  have mJ:=aoU hnew;have Kv:=aoU Ku;clear hnew Ku Ea hid Kt yx nK sF Uo;go_wp2_with fail;apply V.NB (V.lQ (λW=>aoV ai W) (λW=>aoV ai W) (λDB W=>∃aoY,DB= .pointer (some ⟨aoY,0,none⟩)/\gJ B aoY (Do n i id ⟨a.kind,a.s,a.t,a.x⟩ 0) fO (λk=>k=aoY) W/\ai.heap.size<=aoY) (.int .i64 0) 9) (by kernel_rfl) (by kernel_rfl) (λL vs h0=>V.lQ.start (aoV.drew (aoV.refl ai)) (aoV.drew (aoV.refl ai)) h0)
  .intro aF aoX;iterate 9 (apply V.cE.Tp (by decide);(· intro vs W hb;obtain⟨d0,aL⟩:=Kv.out W hb;obtain⟨m0,m1,m2,m3⟩:=qb aL;clear hb aL;go_simp;(try with_reducible rfl));(· rfl);simp only[au,Nat.reduceAdd])
   apply V.cE.Tq;rfl
   .intro vs W hb hp cY ah;have bh:=aoU (mJ.out W hp);have ib:=aoU hp;have zX:=aoU hb;clear hp hb;go_simp;refine bh.out.mono ?_;rintro e W'⟨aoY,rfl,h1,h2,h3⟩;exact ah.out _ W' (zX.out.trans h3) ⟨aoY,rfl,h1,bQ ib.out.size h2⟩
   simp only[au,Nat.reduceAdd];apply V.cE.Tr
   .intro vs W;go_simp
   .rfl
   simp only[au,Nat.reduceAdd];apply V.cE.Ts
   .intro vs v W hv
    (try dsimp only at hv|-)
    (try simp only[Nat.reduceAdd] at hv|-)
    rw[hv];go_simp
   .rfl
   simp only[au,Nat.reduceAdd];apply V.cE.Tt
   .intro vs v W hv
    (try dsimp only at hv|-)
    (try simp only[Nat.reduceAdd] at hv|-)
    rw[hv];go_simp
   .rfl
   simp only[au,Nat.reduceAdd];apply V.cE.Tv
   .intro vs W;go_simp
   .rfl
   simp only[au,Nat.reduceAdd];apply V.cE.Tw
   .intro vs W;go_simp
   .rfl
   simp only[au,Nat.reduceAdd];apply V.cE.Tx;intro vs v9 W v0 v1 v2 v4 hb hf;obtain⟨aoY,rfl,hC,vA⟩:=hf
   (try simp only[Nat.reduceAdd] at v0 v1 v2 v4)
   refine aoX.out _ _ ?_;clear aoX
   (try dsimp only)
   (try simp only[Nat.reduceAdd])
   (try simp only[Nat.reduceAdd] at v4)
   rw[v4];generalize vs 9=Tf at *;generalize vs 10=p5 at *;generalize vs 11=tg at *;have mH:=mr.out.up hb;have rB:=tI.out.trans (aO.up (K:=fO) (X:=ep) hb);have tO:=aH hb rA.out.1;have Ut:w.heap.size<=aoY:=bQ tI.out.kept.size vA;have Gw:¬ep aoY:=λh=>by have:=(mr.out.lt h).2;omega
   have Kr:¬fO aoY:=λh=>by have:=mr.out.jA.lt _ h;omega
   obtain⟨w7,Kw⟩:=bB W
   rw[<- Kw] at mH rB tO hC|-;clear Kw hb v0 v1 v2 v4 mJ Kv mr tI;have ft:=aoU (gd (i:=i) (a:=a) (n:=n) (id:=id) (v:=0) mH Uq.out jX (by rw[Ks.out];exact cO.out.up) (by rw[Ks.out];exact cO.out.jobs) hC Gw Kr B2.out cO.out.J1 cO.out.x (by omega) (.inl fV.out) (λ_=>rfl) (by
    have:=cO.out.ms;rw[if_pos fV.out,<- ff.out,<- mN.out] at this;rw[DY.out];exact this) (by show c1.net.length<=200;rw[mN.out];exact cO.out.net))
   have hend:∀w',(∃(g':dI)(K' X':aD),g'.gc=g1.gc/\aU B g' { ({ c1 with ids:=c1.ids+1 } :cr) with aw:=({ c1 with ids:=c1.ids+1 } :cr).aw.set i { d1 with jobs:= [lM n i id a 0] },net:=kO ({ c1 with ids:=c1.ids+1 } :cr).net (rW (lM n i id a 0)) } K' X' w'/\aO fO (λk=>ep k\/k=aoY) w7 K' X' w')->Kq B i g c a K X w w':=λw' ⟨g',K',X',e1,h,s⟩=>by
    refine⟨g',K',X',e1.trans rD.out,?_,aO.trans ⟨rB.kept,λk hk=>hk.elim (rB.aJ k) (λe=> .inr (by have e:k=aoY:=e;rw[e];exact Ut)),rB.grow,rB.shut⟩ s⟩;rw[aja cO.out.nd fV.out,cO.out.jobs];rw[mN.out,Ks.out,ff.out,DY.out,mN.out] at h;exact h
   have tR:=aoU hend;have xH:mE aoY= .iface 77 (.agg #[.pointer (some ⟨aoY,0,none⟩)]):=rfl;rw[xH] at ft;rw[show g1.gc=g.gc from rD.out] at ft;have zJ:Hid ((gH c i a).2=id):=aoU (by
    have e:(gH c i a).2=c.ids+1:=by
     unfold gH;rw[cO.out.nd]
    rw[e,DY.out,zR.out])
   clear hend xH;go_wp2_with fail;refine ft.out.mono ?_;rintro e aje⟨R,rc,rfl,Kx⟩;have gD:=aoU Kx;clear Kx ft;go_wp2_with fail;refine gD.out.mono ?_;rintro e Uu⟨rfl,hp⟩;have dz:=aoU (tR.out Uu (by rw[rD.out];exact hp));clear hp gD tR;go_wp2_with fail;refine dm (v:= .tuple #[.int .u64 id,.int .i64 0]) (by simp[results,results11,go_sem]) rfl ?_;exact⟨by rw[zJ.out],dz.out⟩
  .kernel_rfl
 .
  have ajd:((a.kind:Int)==3)=false:=by rw[hk];rfl
  have jN:¬a.kind=3:=by omega
  obtain⟨-,hls,su,hme,hmb⟩:=cO.out.TD.resolve_left jN;obtain⟨p,hp⟩:=H3.get iJ;have P:=H3.of hp iJ;obtain⟨hi,⟨pW,tS,hP,hr⟩,dJ⟩:=P;have Gq:((i:Int)<(g.aN.length:Int)):=by
   have hi:i<g.aN.length:=hi;omega
  have c0:w3.cell? ⟨g.gc,0,none⟩=some (.slice (some ⟨pW,tS,none⟩) g.aN.length g.pc):=(aoW H3.flat.bL 0).trans (by rw[<- hP];rfl);have Uv:=aoU (aiX H3 hp iJ cO.out.up (by have:=vd.out;have:=B2.out;omega) hls su hme hmb cO.out.ok);have Om:=aoU (And.intro ao0 (And.intro vE vF));have Df:(lL i d).2=(d.bE.aR+1)*8+i/\(lL i d).1.jobs=d.jobs/\(lL i d).1.up=d.up:=by
   unfold lL qy;split <;>exact⟨rfl,rfl,rfl⟩
  obtain⟨v,hv⟩:=bB ((lL i d).2)
  obtain⟨d1,B3⟩:∃d1,d1=(lL i d).1:=⟨_,rfl⟩
  rw[<- hv,<- B3] at Df;rw[<- hv,<- B3] at Uv;have On:=aoU Df;have cd:=aoU hv;have Ks:=aoU B3;have pD:=aoU H3;have Ac:=aoU pr;have ajf:=aoU hp;have pT:=aoU jN;have ajg:=aoU su;have wC:=aoU iJ;clear hls su hme hmb dJ hi hP H3 pr ao0 vE vF aL aQ aq yx Df hv B3 hp jN hk iJ;go_wp2_with fail;refine Uv.out.mono ?_;rintro e w4⟨rfl,p',fO,aA,ajh,Qu,H4,Uw⟩;obtain⟨c1,hc1⟩:∃c1:cr,c1= { c with aw:=c.aw.set i d1 } :=⟨_,rfl⟩
  obtain⟨g1,DX⟩:∃g1:dI,g1= { g with aN:=g.aN.set i p' } :=⟨_,rfl⟩
  rw[<- hc1,<- DX] at H4;have mF:=Ac.out.trans Uw;have hb4:w4.heap[bc]?=some (.cells #[.int .i64 a.kind,.int .i64 a.s,.int .u64 a.t,.int .i64 a.x] 29 (0,0))/\¬aA bc/\¬fO bc:=Uw.box Om.out.1 Om.out.2.1 Om.out.2.2;have hg1:g1.gc=g.gc:=by rw[DX]
  have jX:c1.aw[i]?=some d1:=by rw[hc1];exact nC (gM wC.out)
  have zR:Hid (c1.ids=c.ids):=aoU (by rw[hc1]);have Un:Hid (c1.aw.length=n):=aoU (by rw[hc1,ff.out];exact List.length_set);have mN:=aoU hc1;have Us:Hid (v<=281474976710656):=aoU (by have h1:=On.out.1;have h2:=ajg.out;have h3:=vd.out;have h4:=B2.out;omega);have Oo:Hid (0<v):=aoU (by have h1:=On.out.1;omega);clear hc1 DX Uw ajh Qu Uv Om pD Ac ajf c0 hr Gq m0;obtain⟨q1,hq1⟩:=H4.get jX;have c3:w4.cell? ⟨g.gc,3,none⟩=some (.int .u64 c1.ids):=by rw[<- hg1];exact aoW H4.flat.bL 3
  have f3:w4.frozen? ⟨g.gc,3,none⟩=false:=by rw[<- hg1];exact ay H4.flat.bL 3
  have Uo:c1.ids<=1000000:=by rw[zR.out];exact cO.out.ids
  have yx:=aoU (Q5 g.gc 3 (c1.ids:Int) 1 w4 c3 f3 (by omega));obtain⟨ai,yl⟩:=bB (w4.setCell ⟨g.gc,3,none⟩ (.int .u64 ((c1.ids:Int)+1)))
  obtain⟨ep,H5,mG⟩:∃ep,aU B g1 { c1 with ids:=c1.ids+1 } fO ep ai/\aO fO aA w4 fO ep ai:=by
   rw[yl,<- hg1];exact aU.ids H4
  have kB:=mG.box hb4.1 hb4.2.1 hb4.2.2;have sF:=aoU yl;have nK:=aoU H4;have tI:=aoU (mF.trans mG);have rA:=aoU kB;have mr:=aoU H5;have Uq:=aoU hq1;have rD:=aoU hg1;clear c3 f3 yl H4 mF mG H5 kB hb4 hq1 hg1;go_wp2_with fail;refine yx.out.mono ?_;rintro e cH⟨rfl,rfl⟩;rw[<- sF.out];obtain⟨id,hid⟩:=bB (c1.ids+1)
  rw[show((c1.ids:Int)+1)=(id:Int) by omega];have DY:=aoU hid;have Ur:1<=id/\id<=1099511627776:=by omega
  have Kt:g1.aN.length=n:=by rw[mr.out.ok.aw];exact Un.out
  have Ea:ai.cell? ⟨g.gc,0,none⟩=some (.slice g1.P n g1.pc):=by
   rw[<- rD.out,<- Kt];exact aoW mr.out.flat.bL 0
  have hnew:∀W,aoV ai W->Calls prog 25 #[.int .i64 n,.int .i64 i,.int .u64 id,.agg #[.int .i64 a.kind,.int .i64 a.s,.int .u64 a.t,.int .i64 a.x],.int .u64 v] W λe w'=>∃aoY,e= .returned (.tuple #[.pointer (some ⟨aoY,0,none⟩),.int .i64 0])/\gJ B aoY (Do n i id ⟨a.kind,a.s,a.t,a.x⟩ v) fO (λk=>k=aoY) w'/\W.heap.size<=aoY/\aoV W w':=λW hW=>
   YD n i id a.kind a.s a.t a.x v ⟨by have:=vd.out;omega,B2.out⟩ vd.out Ur cO.out.J1 (by first|omega|(have:=Us.out;omega)) ⟨λh=>absurd h (by have:=Oo.out;omega),λh=>absurd h pT.out⟩ W (by
    have h1:=(mr.out.lt mr.out.xu).1;have h2:=(mr.out.lt mr.out.xu).2;have h3:=hW.size;omega)
  have Ku:∀W,aoV ai W->W.cell? ⟨g.gc,0,none⟩=some (.slice g1.P n g1.pc)/\W.heap[bc]?=some (.cells #[.int .i64 a.kind,.int .i64 a.s,.int .u64 a.t,.int .i64 a.x] 29 (0,0)):=λW hW=>
   ⟨(mv (a:=⟨g.gc,0,none⟩) (hW.block _ (Lib.lt_of_cell Ea))).trans Ea,aH hW rA.out.1⟩
  have mJ:=aoU hnew;have Kv:=aoU Ku;clear hnew Ku Ea hid Kt yx nK sF Uo;go_wp2_with fail;apply V.NB (V.lQ (λW=>aoV ai W) (λW=>aoV ai W) (λDB W=>∃aoY,DB= .pointer (some ⟨aoY,0,none⟩)/\gJ B aoY (Do n i id ⟨a.kind,a.s,a.t,a.x⟩ v) fO (λk=>k=aoY) W/\ai.heap.size<=aoY) (.int .i64 0) 9) (by kernel_rfl) (by kernel_rfl) (λL vs h0=>V.lQ.start (aoV.drew (aoV.refl ai)) (aoV.drew (aoV.refl ai)) h0)
  .intro aF aoX;iterate 9 (apply V.cE.Tp (by decide);(· intro vs W hb;obtain⟨d0,aL⟩:=Kv.out W hb;obtain⟨m0,m1,m2,m3⟩:=qb aL;clear hb aL;go_simp;(try with_reducible rfl));(· rfl);simp only[au,Nat.reduceAdd])
   apply V.cE.Tq;rfl
   .intro vs W hb hp cY ah;have bh:=aoU (mJ.out W hp);have ib:=aoU hp;have zX:=aoU hb;clear hp hb;go_simp;refine bh.out.mono ?_;rintro e W'⟨aoY,rfl,h1,h2,h3⟩;exact ah.out _ W' (zX.out.trans h3) ⟨aoY,rfl,h1,bQ ib.out.size h2⟩
   simp only[au,Nat.reduceAdd];apply V.cE.Tr
   .intro vs W;go_simp
   .rfl
   simp only[au,Nat.reduceAdd];apply V.cE.Ts
   .intro vs v W hv
    (try dsimp only at hv|-)
    (try simp only[Nat.reduceAdd] at hv|-)
    rw[hv];go_simp
   .rfl
   simp only[au,Nat.reduceAdd];apply V.cE.Tt
   .intro vs v W hv
    (try dsimp only at hv|-)
    (try simp only[Nat.reduceAdd] at hv|-)
    rw[hv];go_simp
   .rfl
   simp only[au,Nat.reduceAdd];apply V.cE.Tv
   .intro vs W;go_simp
   .rfl
   simp only[au,Nat.reduceAdd];apply V.cE.Tw
   .intro vs W;go_simp
   .rfl
   simp only[au,Nat.reduceAdd];apply V.cE.Tx;intro vs v9 W v0 v1 v2 v4 hb hf;obtain⟨aoY,rfl,hC,vA⟩:=hf
   (try simp only[Nat.reduceAdd] at v0 v1 v2 v4)
   refine aoX.out _ _ ?_;clear aoX
   (try dsimp only)
   (try simp only[Nat.reduceAdd])
   (try simp only[Nat.reduceAdd] at v4)
   rw[v4];generalize vs 9=Tf at *;generalize vs 10=p5 at *;generalize vs 11=tg at *;have mH:=mr.out.up hb;have rB:=tI.out.trans (aO.up (K:=fO) (X:=ep) hb);have tO:=aH hb rA.out.1;have Ut:w.heap.size<=aoY:=bQ tI.out.kept.size vA;have Gw:¬ep aoY:=λh=>by have:=(mr.out.lt h).2;omega
   have Kr:¬fO aoY:=λh=>by have:=mr.out.jA.lt _ h;omega
   obtain⟨w7,Kw⟩:=bB W
   rw[<- Kw] at mH rB tO hC|-;clear Kw hb v0 v1 v2 v4 mJ Kv mr tI;have aji:(0:Int)<(v:Int):=by have:=Oo.out;omega
   have an':decide ((0:Int)<(v:Int))=true:=by simpa using aji
   have aoa:decide (0<v)=true:=by have:=Oo.out;simpa using this
   have hfl:=mH.flat.bL;obtain⟨hrow,GA⟩:=mH.ahW;obtain⟨Oq,Ot⟩:=bB g1.nZ.length
   have aob:Oq<=1000000:=by
    have h1:=mH.ok.jf;have h2:=congrArg List.length h1;rw[iZ] at h2;have h3:({ c1 with ids:=c1.ids+1 } :cr).jf.length=c.jf.length:=by rw[mN.out]
    have h4:=cO.out.jf;omega
   have c5:(jC g1 { c1 with ids:=c1.ids+1 })[5]?=some (.slice g1.I Oq g1.zB):=by rw[Ot];rfl
   rw[<- Ot] at hrow;rw[rD.out] at hfl;have ak:=aoU c5;have Nj:=aoU Ot;have ajj:¬bg g1.I g.gc:=λhk=>by
    obtain⟨cs,z,q1⟩:=iL hrow hk;exact absurd (cS q1 hfl) (by decide)
   have Ux:bc≠g.gc:=λe=>by
    rw[e] at tO;exact absurd (cS tO hfl) (by decide)
   have ajk:¬bg g1.I bc:=λhk=>by
    obtain⟨cs,z,q1⟩:=iL hrow hk;exact absurd (cS q1 tO) (by decide)
   have hBw:B<=w7.heap.size:=by
    have h1:=(mH.lt mH.xu).1;have h2:=(mH.lt mH.xu).2;omega
   have hjl:aoY<w7.heap.size:=(bH.call.lt hC rfl).2;have Uy:=aoU mH;have ajl:=aoU rB;have ajm:=aoU hC;have Ou:=aoU GA;clear c5 Ot mH rB hC GA;go_wp2_with fail
   apply V.iE (lT B g.gc 5 (jC g1 { c1 with ids:=c1.ids+1 }) 58 g1.I Oq g1.zB 32 8 (nY g1.nZ) [.int .u64 id,.int .i64 a.kind,.int .i64 a.s,.int .u64 a.t,.int .i64 a.x,.int .i64 0,.int .u64 v,.slice none 0 0] (λW=>W.heap[bc]?=some (.cells #[.int .i64 a.kind,.int .i64 a.s,.int .u64 a.t,.int .i64 a.x] 29 (0,0))) 9 w7) (by kernel_rfl) (by kernel_rfl) (λvs=>lT.start hfl hrow (aH (aoV.drew (aoV.refl w7)) tO) vs)
   .intro aF aoX;iterate 4 (apply V.az.ok;(· intro k vs w1 hS;go_simp;with_reducible rfl);(· rfl);simp only[au,Nat.reduceAdd])
    apply V.az.early 13 2
    .intro k vs ag hi hS;have c1:ag.cell? ⟨g.gc,5,none⟩=some (.slice g1.I Oq g1.zB):=(aoW (hS.blk hi) 5).trans ak.out;clear hS;go_simp
     with_reducible rfl
    .rfl
    simp only[au,Nat.reduceAdd];iterate 4 (apply V.az.ok;(· intro k vs ag hS;have aL:=hS.more;obtain⟨d0,d1,d2,d3⟩:=qb aL;clear hS aL;go_simp;(try with_reducible rfl));(· rfl);simp only[au,Nat.reduceAdd])
    apply V.az.cG;rfl
    .intro vs ag hS cY ah;have aS:=ah.out _ _ (lT.build hS (λW' yq h=>aH yq h) (by rfl));have aK:=aoU aS;clear aS ah hS
     (try simp only[au,Nat.reduceAdd] at aK)
     go_simp;exact aK.out
    simp only[au,Nat.reduceAdd];apply V.az.cG;rfl
    .intro vs ag hS cY ah;obtain⟨Q,hv7,DT⟩:=hS.one rfl;have hsz:=hS.kept.size
     (try dsimp only at ah hv7|-)
     rw[hv7] at ah|-;refine uP _ _ _ TG rfl rfl rfl (hS.row (by decide)) (Rd.own DT) (TH ⟨⟨id,a,0,v,[]⟩,none,0⟩) (by omega) (by omega) (by omega) λv' ai ho' hg' m8=>?_
     obtain⟨L',rc',rfl⟩:=eL ho';exact ah.out _ _ (lT.append hS ajj (λhK h=>cL hK h ajk) ho' hg' m8)
    simp only[au,Nat.reduceAdd];iterate 2 (apply V.az.ok;(· intro k vs w1 hS;go_simp;with_reducible rfl);(· rfl);simp only[au,Nat.reduceAdd])
    apply V.az.call undef;rfl
    .intro vs ag hS cY ah;have c1:=(aoW (hS.blk (by decide)) 5).trans ak.out;have s1:=ay (hS.blk (by decide)) 5;obtain⟨L',rc',nV,B0⟩:=lT.store hS (by decide) (λu hK h=>cL hK h Ux);have aS:=ah.out _ B0;have aK:=aoU aS;clear ah aS hS B0
     (try dsimp only at aK nV|-)
     rw[nV] at aK|-;clear nV
     (try simp only[au,Nat.reduceAdd] at aK)
     go_simp;exact aK.out
    simp only[au,Nat.reduceAdd];apply V.az.fin;intro vs ag hS;obtain⟨L',rc',f1,f2,f3⟩:=hS.fin rfl;have oS:=hS.kept;refine aoX.out _ _ ?_;clear aoX hS
    (try dsimp only)
    obtain⟨Ky,oA,GB⟩:=aU.ahX (v:=⟨⟨id,a,0,v,[]⟩,none,0⟩) (L':=L') (rc':=rc') Uy.out jB.empty (by rw[rD.out,<- Nj.out];exact f1) (by rw[<- Nj.out];exact f2) f3 (by rw[rD.out];exact oS);have ajn:ep g.gc:=by rw[<- rD.out];exact Uy.out.xu
    have av:∀k,(k=g.gc\/bg g1.I k)->ep k:=λk h=>h.elim (λe=>by rw[e];exact ajn) (Ou.out k)
    have Uh:gJ B aoY (Do n i id ⟨a.kind,a.s,a.t,a.x⟩ v) fO (λk=>k=aoY) ag:=bH.call.keep ajm.out oS (λk e h=>by
     have e:k=aoY:=e;rw[e] at h;exact Gw (av _ h)) (λk hk h=>Uy.out.jA.ap k (av k h) hk)
    have ajo:¬Ky aoY:=λh=>(GB.aJ aoY h).elim Gw (λh9=>by omega)
    have hu1:d1.up=true:=On.out.2.2.trans cO.out.up;have uN:d1.jobs= []:=On.out.2.1.trans cO.out.jobs;have ft:=aoU (gd (i:=i) (a:=a) (n:=n) (id:=id) (v:=v) oA Uq.out jX hu1 uN Uh ajo Kr B2.out cO.out.J1 cO.out.x Us.out (cO.out.TD.imp (λh=>h) (λh=>h.1)) (λh=>absurd h pT.out) (by
     have:=cO.out.ms;rw[if_neg pT.out,<- ff.out,<- cd.out] at this;rw[DY.out,zR.out];exact this) (by show c1.net.length<=200;rw[mN.out];exact cO.out.net))
    have hend:∀w',(∃(g':dI)(K' X':aD),g'.gc=g1.gc/\aU B g' { ({ c1 with ids:=c1.ids+1,jf:=c1.jf++[⟨id,a,0,v,[]⟩] } :cr) with aw:=({ c1 with ids:=c1.ids+1 } :cr).aw.set i { d1 with jobs:= [lM n i id a v] },net:=kO ({ c1 with ids:=c1.ids+1 } :cr).net (rW (lM n i id a v)) } K' X' w'/\aO fO (λk=>Ky k\/k=aoY) ag K' X' w')->Kq B i g c a K X w w':=λw' ⟨g',K',X',e1,h,s⟩=>by
     have yB:=ajl.out.trans GB;refine⟨g',K',X',e1.trans rD.out,?_,aO.trans ⟨yB.kept,λk hk=>hk.elim (yB.aJ k) (λe=> .inr (by have e:k=aoY:=e;rw[e];exact Ut)),yB.grow,yB.shut⟩ s⟩;rw[ajb cO.out.nd pT.out (by rw[<- cd.out];have:=Oo.out;omega),<- cd.out,<- Ks.out,uN];rw[ff.out,DY.out,mN.out] at h;simpa using h
    have tR:=aoU hend;have xH:mE aoY= .iface 77 (.agg #[.pointer (some ⟨aoY,0,none⟩)]):=rfl;rw[xH] at ft;rw[show g1.gc=g.gc from rD.out] at ft;have zJ:Hid ((gH c i a).2=id):=aoU (by
     have e:(gH c i a).2=c.ids+1:=by
      unfold gH;rw[cO.out.nd]
     rw[e,DY.out,zR.out])
    clear hend xH;go_wp2_with fail;refine ft.out.mono ?_;rintro e aje⟨R,rc,rfl,Kx⟩;have gD:=aoU Kx;clear Kx ft;go_wp2_with fail;refine gD.out.mono ?_;rintro e Uu⟨rfl,hp⟩;have dz:=aoU (tR.out Uu (by rw[rD.out];exact hp));clear hp gD tR;go_wp2_with fail;refine dm (v:= .tuple #[.int .u64 id,.int .i64 0]) (by simp[results,results11,go_sem]) rfl ?_;exact⟨by rw[zJ.out],dz.out⟩
   .kernel_rfl
  .kernel_rfl
end
theorem aku(bE:zm)(m:eU):sd bE m=⟨Kz bE.aR m.k m.n m.l,bE.ls⟩:=by
 have go:∀(l:List aC)(bE:zm),l.foldl (λk x=>QT k x.v.toNat) bE=⟨vY bE.aR l,bE.ls⟩:=by
  intro l;induction l with
  |nil=>intro bE;rfl
  |cons x r ih=>intro bE;rw[List.foldl_cons,ih];rfl
 unfold sd Kz;rw[go];split <;>rfl
section
variable{B i:Nat}{g:dI}{c:cr}{q:dU}{d:bA}{K X:aD}{w:World}
theorem nt{m:eU}(h:gT m=true):m.n<=281474976710656/\m.l.length<=1500/\1<=m.k/\m.k<=10/\m.l.all okB=true:=by
 unfold gT pM at h;rw[ij] at h;have h1:=of_decide_eq_true h.1;obtain⟨a,b,-,-,-,e,f,-⟩:=h1;exact⟨e,f,by omega,by omega,h.2⟩
theorem akv(H:aU B g c K X w)(hq:g.aN[i]?=some q)(hd:c.aw[i]?=some d)(hu:d.up=true)(v:em)(hv:jB K w 5 v.A v.m.l.length (bl v.m.l))(hok:gT v.m=true)(hk:v.m.k<=5):
 Calls prog 52 #[.pointer (some ⟨q.gk,0,none⟩),.agg #[.int .i64 v.m.k,.int .i64 v.m.f,.int .i64 v.m.t,.int .u64 v.m.id,.int .u64 v.m.n,.slice v.A v.m.l.length v.c]] w λe w'=>e= .returned (.tuple #[])/\∃X',aU B g { c with aw:=c.aw.set i { d with bE:=sd d.bE v.m } } K X' w'/\aO K X w K X' w':=by
 obtain⟨aA,h1,a1,x1,put⟩:=H.BP hq hd hu;obtain⟨lI,MG,h3,a3,akw⟩:=bF.part mo h1 a1 (i:=3) rfl;obtain⟨hn,hl,iU,-,-⟩:=nt hok;have fin:∀w',kj B q.gk i (Kz d.bE.aR v.m.k v.m.n v.m.l) d.bE.ls K lI w'->V.af lI w w'->∃X',aU B g { c with aw:=c.aw.set i { d with bE:=sd d.bE v.m } } K X' w'/\aO K X w K X' w':=λw' hc hK=>by
  have s3:aO K lI w K lI w':=⟨hK,λk h=> .inl h,λ_ h=>h,λ_ h=> .inl h⟩
  obtain⟨h4,dP,a4⟩:=akw.put hc s3 (a3.same s3);rw[ZP,<- aku] at h4;obtain⟨X',h5,jy⟩:=put q { d with bE:=sd d.bE v.m } K _ w' rfl (H.ok.jobs i q d hq hd) hu h4 dP a4;rw[DU g.aN i q hq] at h5;exact⟨X',h5,jy⟩
 have F6:0<v.m.l.length->∀a,v.A=some a->¬lI a.block:=λh0 a ha=>hv.T' a3 h0 _ ⟨a,ha,rfl⟩
 by_cases UN:v.m.k=4\/v.m.k=5
 .refine(ajr h3 (v.m.f:Int) (v.m.t:Int) v.m.k v.m.id v.m.n v.A v.m.l.length v.c v.m.l hv.rd F6 (by omega) (by omega) UN).mono ?_;rintro e w'⟨rfl,hc,hK⟩;refine⟨rfl,fin w' ?_ hK⟩;unfold Kz;rw[if_pos UN];exact hc
 .refine(ajs h3 (v.m.f:Int) (v.m.t:Int) v.m.k v.m.id v.m.n v.A v.m.l.length v.c v.m.l hv.rd F6 (by omega) (by omega) (by omega)).mono ?_;rintro e w'⟨rfl,hc,hK⟩;refine⟨rfl,fin w' ?_ hK⟩;unfold Kz;rw[if_neg UN];exact hc
theorem aU.akx(H:aU B g c K X w)(hq:g.aN[i]?=some q)(hd:c.aw[i]?=some d)(hu:d.up=true):
 ∃aA:aD,bF (ez B i c.aG q d) K aA w/\cy K aA w/\(∀k,aA k->X k)/\∀(q':dU)(d':bA)(K' cA:aD)(w':World),q'.aE=q.aE->q'.du.length=d'.jobs.length->d'.up=true->bF (ez B i c.aG q' d') K' cA w'->aO K aA w K' cA w'->cy K' cA w'->
  ∃X',aU B { g with aN:=g.aN.set i q' } { c with aw:=c.aw.set i d' } K' X' w'/\aO K X w K' X' w'/\∀k,X' k->cA k\/X k:=by
 obtain⟨ep,DM,h5,a5,uL⟩:=bF.part qB H.lay H.jA (i:=5) rfl;have xv:=IY (B:=B) (aG:=c.aG) 0 i g.aN c.aw q d hq hd;rw[dV] at xv;obtain⟨aA,vC,h1,a1,oC⟩:=bF.part (Dp _ _ _) h5 a5 xv;have Ue:bF (ez B i c.aG q d) K aA w:=by unfold lm at h1;rw[if_pos hu] at h1;exact h1
 refine⟨aA,Ue,a1,λk hk=>(uL.iff k).2 (.inl ((oC.iff k).2 (.inl hk))),λq' d' K' cA w' qM hjl qL uu s1 J4=>?_⟩;have Uf:lm B i c.aG q' d' K' cA w':=by unfold lm;rw[if_pos qL];exact uu
 obtain⟨h6,iY,a6⟩:=oC.put Uf s1 J4;have bC:=IZ (B:=B) (aG:=c.aG) 0 i g.aN c.aw q' d';rw[dV] at bC;rw[bC] at h6;obtain⟨h7,gK,a7⟩:=uL.put h6 iY a6;have e:(apa B g c).set 5 (bF (mq B c.aG 0 (g.aN.set i q') (c.aw.set i d')))=apa B { g with aN:=g.aN.set i q' } { c with aw:=c.aw.set i d' } :=by
  unfold apa jC;dsimp only;rw[TE pR g.aN i q q' hq (by unfold pR;rw[qM]),List.length_set];rfl
 rw[e] at h7;refine⟨_,⟨⟨H.ok.net,H.ok.cZ,H.ok.jf,?_,λk cP d2 eM dw=>?_⟩,h7,a7⟩,gK,λk hk=>?_⟩
 .show(g.aN.set i q').length=(c.aw.set i d').length;rw[List.length_set,List.length_set];exact H.ok.aw
 .have eM:(g.aN.set i q')[k]?=some cP:=eM;have dw:(c.aw.set i d')[k]?=some d2:=dw;by_cases hk:k=i
  .subst hk;rw[nC (gM hq)] at eM;rw[nC (gM hd)] at dw;injection eM with eM;injection dw with dw;subst eM;subst dw;exact hjl
  .rw[List.getElem?_set_ne (λh=>hk h.symm)] at eM dw;exact H.ok.jobs k cP d2 eM dw
 .rcases hk with (hk|hk)|hk
  .exact .inl hk
  .exact .inr ((uL.iff k).2 (.inl ((oC.iff k).2 (.inr hk))))
  .exact .inr ((uL.iff k).2 (.inr hk))
structure KI(B i:Nat)(g:dI)(c:cr)(q:dU)(d:bA)(m:eU)(K X:aD)(w:World)(L:Option Addr)(n:Nat)(vs:List em)(w':World)(q':dU)(K' X':aD):Prop where
 aE:q'.aE=q.aE
 gn:q'.gn=q.gn
 bL:aU B { g with aN:=g.aN.set i q' } { c with aw:=c.aw.set i (jl i d m).1 } K' X' w'
 st:aO K X w K' X' w'
 rd:Rd w' w'.heap.size 6 L n (dO vs)
 ap:∀k,bW L k->¬X' k
 bI:∀v∈vs,Rd w' w'.heap.size 5 v.A v.m.l.length (bl v.m.l)/\(∀k,bW v.A k->¬X' k/\k<w'.heap.size)/\gT v.m=true
 ms:vs.map (·.m)=(jl i d m).2
 n:n<=1
theorem aky(H:aU B g c K X w)(hq:g.aN[i]?=some q)(hd:c.aw[i]?=some d)(hu:d.up=true):vt B q.sp d K w/\w.heap[q.gn]?=some (.cells (zA q i c.aG d) 153 (0,0)):=by
 obtain⟨aA,h1,a1,x1,put⟩:=H.BP hq hd hu;obtain⟨cD,Ba,h2,a2,tP⟩:=bF.part mo h1 a1 (i:=1) rfl;exact⟨h2.1,(zH h1).nd⟩
theorem E1(H:aU B g c K X w)(hq:g.aN[i]?=some q)(hd:c.aw[i]?=some d){m:eU}(hn:(jl i d m).1=d){w':World}(hu:aoV w w'){L:Option Addr}{n:Nat}{vs:List em}(hr:Rd w' w'.heap.size 6 L n (dO vs))(hL:∀k,bW L k->w.heap.size<=k)(hv:∀v∈vs,Rd w' w'.heap.size 5 v.A v.m.l.length (bl v.m.l)/\(∀k,bW v.A k->w.heap.size<=k/\k<w'.heap.size)/\gT v.m=true)(Gx:vs.map (·.m)=(jl i d m).2)(fj:n<=1):
 KI B i g c q d m K X w L n vs w' q K X:=by
 have no:∀k,w.heap.size<=k->¬X k:=λk h1 h2=>by have:=(H.lt h2).2;omega
 refine⟨rfl,rfl,?_,aO.up hu,hr,λk hk=>no k (hL k hk),λv h=>⟨(hv v h).1,λk hk=>⟨no k ((hv v h).2.1 k hk).1,((hv v h).2.1 k hk).2⟩,(hv v h).2.2⟩,Gx,fj⟩;rw[hn,DU g.aN i q hq,Uc hd];exact H.up hu
theorem akz(H:aU B g c K X w)(hq:g.aN[i]?=some q)(hd:c.aw[i]?=some d)(hu:d.up=true)(v:em)(df:TB d v.m)(ht:v.m.t=i)(hv:jB K w 5 v.A v.m.l.length (bl v.m.l))(hcap:v.m.l.length<=v.c)(hok:gT v.m=true)(lS:∀a∈(jl i d v.m).2,gT a=true):
 Calls prog 53 #[.pointer (some ⟨q.gn,0,none⟩),.agg #[.int .i64 v.m.k,.int .i64 v.m.f,.int .i64 v.m.t,.int .u64 v.m.id,.int .u64 v.m.n,.slice v.A v.m.l.length v.c]] w λe w'=>∃L n lc vs q' K' X',e= .returned (.slice L n lc)/\KI B i g c q d v.m K X w L n vs w' q' K' X':=by
 obtain⟨hS,hN⟩:=aky H hq hd hu;obtain⟨hn,hl,iU,-,hall⟩:=nt hok;have hne:¬(gT v.m=false\/v.m.t≠i):=by rw[hok,ht];simp
 have hn0:(zA q i c.aG d)[0]?=some (.int .i64 v.m.t):=by rw[ht];rfl
 rcases df.how with hk|⟨hk,OH⟩|⟨hk,x,hxl,hx,hits,hnb,hfl,Fe,mg⟩
 .have hh:jl i d v.m=(d,[]):=by unfold jl;rw[if_neg hne,if_neg (by omega),if_neg (by omega)]
  refine(aj7 (nr:=zA q i c.aG d) hN v hn0 rfl hS H.jA.lt hv.rd hl hok i ht hk).mono ?_;rintro e w'⟨rfl,qL⟩;exact⟨none,0,0,[],q,K,X,rfl,E1 H hq hd (by rw[hh]) qL Rd.empty (λk hk=>absurd hk (JW k)) (λv hv=>by cases hv) (by rw[hh];rfl) (by omega)⟩
 .have hh:jl i d v.m=(d,[⟨5,i,v.m.f,v.m.id,d.ao.ce,rq d.bI (Int64.ofInt v.m.n)⟩]):=by unfold jl;rw[if_neg hne,if_neg (by omega),if_pos hk,if_pos OH]
  refine(aj8 (nr:=zA q i c.aG d) hN v hn0 rfl hS H.jA.lt hv.rd hl hok i ht hk OH (by have:=df.ok.bI;omega)).mono ?_;rintro e w'⟨Q,R,rc,rfl,hq1,ho,qL⟩;refine⟨some ⟨Q,0,none⟩,1,1,[⟨⟨5,i,v.m.f,v.m.id,d.ao.ce,rq d.bI (Int64.ofInt v.m.n)⟩,R,(rq d.bI (Int64.ofInt v.m.n)).length⟩],q,K,X,rfl,E1 H hq hd (by rw[hh]) qL (by simpa[dO] using Rd.own hq1) (λk hk=>?_) (λu aq=>?_) (by rw[hh];rfl) (by omega)⟩
  .obtain⟨a,e1,e2⟩:=hk;injection e1 with e1;rw[<- e2,<- e1];exact(jO hq1 _ rfl).1
  .rw[fi] at aq;subst aq;refine⟨Rd.own ho,λk hk=>?_,lS _ (by rw[hh];exact List.mem_singleton_self _)⟩;obtain⟨a,e1,e2⟩:=hk;have e1:R=some a:=e1;subst e1 e2;exact jO ho a.block rfl
 .have hx1:okB x=true:=hx.ok;have OJ:jk d.bI [x]= [x]:=by rw[hits];exact NW hx false true
  have qr:(v.m.l.any λy=>decide (y.v.toNat<=d.ao.aM))=false:=by rw[hxl];simp;omega
  have hh:jl i d v.m=({ d with bI:= [x],am:=d.am++fh [x],nb:=d.nb+1,cs:=d.cs+2 },[⟨2,i,v.m.f,v.m.id,0,[]⟩]):=by
   unfold jl;rw[if_neg hne,if_pos hk,if_neg (by rw[qr];decide)];unfold Fg;rw[hxl,OJ,if_neg (by rw[hits];exact List.cons_ne_nil _ _)]
  obtain⟨aA,h1,a1,x1,put⟩:=H.akx hq hd hu;obtain⟨cD,Ba,h2,a2,tP⟩:=bF.part mo h1 a1 (i:=1) rfl;have Y2:=(zH h1).nd;have Ec:¬ek q.sp d q.gn:=JV h2.1 Y2 (.inr (.inl rfl));have hcb:jm.length<=1000:=RH;have yo:=df.ok.am;have hmn:=df.ok.mn;have hcs:=df.ok.cs;have hD:ia (pQ d) dK (fh [x])=(fg (d.am++fh [x]) d.am.length d.mn d.mn.length jm (d.cs+1),0):=gX _ _ _ _ _ _ _ (by omega) (by omega) hcb
  have ry:ld (fg (d.am++fh [x]) d.am.length d.mn d.mn.length jm (d.cs+1)) dK=(fg (d.am++fh [x]) (d.am++fh [x]).length d.mn d.mn.length jm (d.cs+1+1),0):=K7 _ _ _ _ _ _;have akA:dx (pQ d):=AC _ _ _ _ _ _ (by omega) (aZ _) (by omega) (aZ _) (by omega);have jU:dx (fg (d.am++fh [x]) d.am.length d.mn d.mn.length jm (d.cs+1)):=AC _ _ _ _ _ _ (by rw[dG];omega) (by rw[dG];omega) (by omega) (aZ _) (by omega);have GD:∀k,cD k->k<w.heap.size:=λk hk=>(bH.Ys.lt h2 hk).2
  refine(akb (nr:=zA q i c.aG d) Y2 v hn0 rfl Ec h2.1 (λk hk=>a2.ap k ((h2.2 k).2 hk)) a2.lt hv.rd hl hcap (λk hk h=>hv.T' a2 (by rw[hxl];exact Nat.one_pos) k hk ((h2.2 k).2 h)) hok i ht hk x hxl qr hnb akA (by show d.cs<=_;omega) hx1 (by rw[hits];exact oP hx false true) (by rw[OJ,hits];exact λe=>List.cons_ne_nil _ _ e.symm) (by have:=df.ok.bI;omega) (by rw[OJ];show(1:Nat)<=1500;decide) hD ry jU (by show d.cs+1<=_;omega) mg (by omega)).mono ?_;rintro e w'⟨Q,h',S',oF,rfl,hq1,dg,hK,hf,hg',xJ⟩;rw[OJ] at dg
  obtain⟨p',hp'⟩:∃p':Sp,p'= { q.sp with h:=h',S:=S',sc:=oF } :=⟨_,rfl⟩
  obtain⟨d',hd'⟩:∃d':bA,d'=(jl i d v.m).1:=⟨_,rfl⟩
  rw[hh] at hd';dsimp only at hd';have akB:d.nb+1=1:=by omega
  have jo:vt B p' d' (λk=>K k\/bg S' k) w':=by
   rw[hp',hd'];refine⟨dg.dk,dg.st,dg.mn,?_,λh0=>absurd h0 (by show¬d.nb+1=0;omega),dg.im,dg.bs,dg.cp⟩;rw[show(d.nb+1:Nat)=1 from akB];exact dg.am
  have Z2:∀k,ek p' d' k->ek q.sp d k\/w.heap.size<=k:=λk hk=>by
   rw[hp',hd'] at hk;rcases hk with hk|hk|hk|hk|⟨h0,-⟩
   .exact(hf k hk).imp .inl id
   .exact .inl (.inr (.inl hk))
   .exact .inl (.inr (.inr (.inl hk)))
   .exact .inl (.inr (.inr (.inr (.inl hk))))
   .exact absurd h0 (by show¬d.nb+1=0;omega)
  have s2:aO K cD w (λk=>K k\/bg S' k) (ek p' d') w':=⟨eQ hK (λk hk=>(h2.2 k).2 hk),λk hk=>(Z2 k hk).imp (h2.2 k).2 id,λk hk=> .inl hk,λk hk=>hk.imp id (λh=>(xJ k h).1)⟩
  have akC:∀k,bg S' k->¬ek p' d' k:=λk hk h=>by
   obtain⟨fj,hn2,cs,z,h9⟩:=xJ k hk;rw[hp',hd'] at h;rcases h with h|h|h|h|⟨h0,-⟩
   .exact dg.dk.nf h9 (by decide) (by decide) (by decide) (by decide) (by decide) h
   .have:=GD k ((h2.2 k).2 (.inr (.inl h)));omega
   .have:=GD k ((h2.2 k).2 (.inr (.inr (.inl h))));omega
   .have:=GD k ((h2.2 k).2 (.inr (.inr (.inr (.inl h)))));omega
   .exact absurd h0 (by show¬d.nb+1=0;omega)
  have akD:cy (λk=>K k\/bg S' k) (ek p' d') w':=⟨λk hk h=>h.elim (λh=>(Z2 k hk).elim (λh3=>a2.ap k ((h2.2 k).2 h3) h) (λh3=>by have:=a2.lt k h;omega)) (λh=>akC k h hk),λk h=>h.elim (λh=>cg (a2.lt k h) hK.size) (λh=>(xJ k h).2.1)⟩
  obtain⟨h3,s3,a3⟩:=tP.put (P':=o0 B p' d') ⟨jo,λk=>Iff.rfl⟩ s2 akD;have bC:=ZQ (B:=B) (i:=i) (aG:=c.aG) (q:=q) (d:=d) p' d' (by rw[hp'];exact hg') (by rw[hp']) (by rw[hd']) (by rw[hd']) (by rw[hd']);rw[bC] at h3;obtain⟨X',h4,dP,tp⟩:=put { q with sp:=p' } d' _ _ w' rfl (by rw[hd'];exact H.ok.jobs i q d hq hd) (by rw[hd'];exact hu) h3 s3 a3;have hQ:∀k,bW (some ⟨Q,0,none⟩) k->w.heap.size<=k/\∃cs z,w'.heap[k]?=some (.cells cs 135 z):=λk hk=>by
   refine⟨?_,iL hq1 hk⟩;obtain⟨a,e1,e2⟩:=hk;injection e1 with e1;rw[<- e2,<- e1];exact(jO hq1 _ rfl).1
  have BA:d'=(jl i d v.m).1:=by rw[hh,hd']
  refine⟨some ⟨Q,0,none⟩,1,1,[⟨⟨2,i,v.m.f,v.m.id,0,[]⟩,none,0⟩],{ q with sp:=p' },_,X',rfl,⟨rfl,rfl,by rw[<- BA];exact h4,dP,by simpa[dO] using Rd.own hq1,λk hk hX=>?_,λu aq=>?_,by rw[hh];rfl,by omega⟩⟩
  .obtain⟨fj,cs,z,h9⟩:=hQ k hk;rcases tp k hX with (h8|h8)|h8
   .rw[hp',hd'] at h8;rcases h8 with h|h|h|h|⟨h0,-⟩
    .exact dg.dk.nf h9 (by decide) (by decide) (by decide) (by decide) (by decide) h
    .have:=GD k ((h2.2 k).2 (.inr (.inl h)));omega
    .have:=GD k ((h2.2 k).2 (.inr (.inr (.inl h))));omega
    .have:=GD k ((h2.2 k).2 (.inr (.inr (.inr (.inl h)))));omega
    .exact absurd h0 (by show¬d.nb+1=0;omega)
   .have:=tP.lt k h8;omega
   .have:=(H.lt h8).2;omega
  .rw[fi] at aq;subst aq;exact⟨Rd.empty,λk hk=>absurd hk (JW k),lS _ (by rw[hh];exact List.mem_singleton_self _)⟩
end
section
variable{B i:Nat}{g:dI}{c:cr}{q:dU}{d:bA}{K X:aD}{w:World}
def UO(B i:Nat)(g:dI)(c:cr)(q:dU)(d:bA)(j1:dT)(K X:aD)(w wr:World):Prop:=∃(g':dI)(K' X':aD),g'.gc=g.gc/\g'.aN=g.aN/\aU B g' { c with aw:=c.aw.set i { d with jobs:= [j1] },cZ:=c.cZ++(if lk j1=true then [ao4 j1] else []) } K' X' wr/\aO K X w K' X' wr
def UP(B i:Nat)(g:dI)(c:cr)(d:bA)(m:eU)(K X:aD)(w w':World):Prop:=∃(g':dI)(K' X':aD),g'.gc=g.gc/\aU B g' { c with aw:=c.aw.set i { d with jobs:=(mj d.jobs m).1 },cZ:=c.cZ++(mj d.jobs m).2 } K' X' w'/\aO K X w K' X' w'
theorem H9(j:dT)(m:eU):mj [j] m=(if lk (gG j m)=true then [] else [gG j m],if lk (gG j m)=true then [ao4 (gG j m)] else []):=by
 unfold mj lk ao4;cases h:(gG j m).fin <;>simp[h]
theorem akE(H:aU B g c K X w)(hq:g.aN[i]?=some q)(hd:c.aw[i]?=some d)(hu:d.up=true){j:dT}(hj:d.jobs= [j]){bm:Nat}(v:em)(df:Gk i j v.m)(ht:v.m.t=i)(hv:jB K w 5 v.A v.m.l.length (bl v.m.l))(hlen:v.m.l.length<=1000)(hok:gT v.m=true)(pU:c.net.length<=290)(lS:c.cZ.length<=1000)(hfl:(ao4 (gG j v.m)).l.length<=100000)(hb:w.heap[bm]?=some (.cells #[.int .i64 v.m.k,.int .i64 v.m.f,.int .i64 v.m.t,.int .u64 v.m.id,.int .u64 v.m.n,.slice v.A v.m.l.length v.c] 135 (0,0))):
 Calls prog 54 #[.pointer (some ⟨g.gc,0,none⟩),.pointer (some ⟨q.aE,0,none⟩),.func (.func 55) #[] #[.pointer (some ⟨bm,0,none⟩)]] w λe w'=>e= .returned (.tuple #[])/\UP B i g c d v.m K X w w':=by
 obtain⟨aoY,ao7,J⟩:=H.eE hq hd hu hj;have hi:=(gM hd);obtain⟨j1,uN⟩:=bB (gG j v.m)
 have dJ:=H.Gr hq hd hu;have c3:w.cell? ⟨q.aE,3,none⟩=some (.slice (some ⟨ao7,0,none⟩) 1 q.fA):=(aoW dJ 3).trans (by show some (Value.slice q.J q.du.length q.fA)=_;rw[J.du,J.J];rfl);have rR:=aoU (aiR H hq hd hu hj J v df ht hv hlen hok hb);have akF:=J.cell;have jX:({ c with aw:=c.aw.set i { d with jobs:= [j1] } } :cr).aw[i]?=some { d with jobs:= [j1] } :=nC hi
 have hsend:∀(w1:World)(fO aA:aD),aU B g { c with aw:=c.aw.set i { d with jobs:= [j1] } } fO aA w1->Calls prog 49 #[.pointer (some ⟨g.gc,0,none⟩),.slice none 0 0] w1 λe w'=>e= .returned (.tuple #[])/\∃(ms':List em)(K' X':aD),aU B { g with ms:=ms' } { c with aw:=c.aw.set i { d with jobs:= [j1] } } K' X' w'/\aO fO aA w1 K' X' w':=λw1 fO aA h1=>
  Ub h1 none 0 0 [] Rd.empty (λk hk=>absurd hk (JW k)) (λv hv=>by cases hv) (by show c.net.length+0<300;omega)
 have hdone:∀(ms':List em)(w2:World)(jY cD:aD),aU B { g with ms:=ms' } { c with aw:=c.aw.set i { d with jobs:= [j1] } } jY cD w2->Calls prog 408 #[.pointer (some ⟨aoY,0,none⟩)] w2 λe w'=>∃R rc,e= .returned (.tuple #[Kl (ao4 j1) R rc,.bool (lk j1)])/\ej w' w2.heap.size R (ao4 j1).l.length rc (ao4 j1).l/\aoV w2 w':=λms' w2 jY cD h2=>by
  obtain⟨UQ,apn,qN⟩:=h2.eE (q:=q) hq jX hu (j:=j1) rfl;have e:UQ=aoY:=by have:=qN.du.symm.trans J.du;injection this
  subst e;obtain⟨zZ,h9,-⟩:=qN.call;exact R9 h9 (by rw[uN];omega)
 have hend:∀(g':dI)(K' X':aD)(wr:World)(KJ:cr),KJ= { c with aw:=c.aw.set i { d with jobs:= [j1] },cZ:=c.cZ++(if lk j1=true then [ao4 j1] else []) } ->g'.aN=g.aN->g'.gc=g.gc->aU B g' KJ K' X' wr->aO K X w K' X' wr->
  wr.cell? ⟨q.aE,3,none⟩=some (.slice (some ⟨ao7,0,none⟩) 1 q.fA)/\wr.frozen? ⟨q.aE,3,none⟩=false/\Calls prog 87 #[.slice (some ⟨ao7,0,none⟩) 1 q.fA,.func (.func 88) #[] #[]] wr λe w'=>∃n,e= .returned (.slice (some ⟨ao7,0,none⟩) n q.fA)/\w'.cell? ⟨q.aE,3,none⟩=some (.slice (some ⟨ao7,0,none⟩) 1 q.fA)/\w'.frozen? ⟨q.aE,3,none⟩=false/\UP B i g c d v.m K X w (w'.setCell ⟨q.aE,3,none⟩ (.slice (some ⟨ao7,0,none⟩) n q.fA)):=λg' K' X' wr KJ ER e1 e2 h s=>by
  have GF:g'.aN[i]?=some q:=by rw[e1];exact hq
  have GG:KJ.aw[i]?=some { d with jobs:= [j1] } :=by rw[ER];exact jX
  have apD:=h.Gr GF GG hu;obtain⟨UQ,apn,qN⟩:=h.eE (q:=q) GF GG hu (j:=j1) rfl;have bG:UQ=aoY:=by have:=qN.du.symm.trans J.du;injection this
  have bT:apn=ao7:=by
   have:=qN.J.symm.trans J.J;injection this with this;injection this
  subst bG bT;obtain⟨zZ,h9,a9,-⟩:=qN.call;have UR:wr.cell? ⟨q.aE,3,none⟩=some (.slice (some ⟨apn,0,none⟩) 1 q.fA):=(aoW apD 3).trans (by show some (Value.slice q.J q.du.length q.fA)=_;rw[qN.du,qN.J];rfl);refine⟨UR,ay apD 3,?_⟩;by_cases oa:lk j1=true
  .refine(aiK apn q.fA qN.fA h9 a9 (by rw[uN];omega) qN.cell qN.free oa).mono ?_;rintro e w'⟨rfl,w1,hu1,rfl⟩;have dw:=(h.up hu1)
   obtain⟨aok,GH,KL⟩:=dw.eE (q:=q) GF GG hu (j:=j1) rfl;have bT:GH=apn:=by
    have:=KL.J.symm.trans qN.J;injection this with this;injection this
   subst bT;obtain⟨tD,h7,gK⟩:=dw.drop GF GG hu (j:=j1) rfl KL;have hp1:=aH hu1 apD;have hgb:q.aE≠GH:=λe=>by
    obtain⟨um,hh,akG,-,-⟩:=dw.BP GF GG hu;obtain⟨vm,aiP,h4,a4,aiQ⟩:=bF.part mo hh akG (i:=4) rfl;obtain⟨cs,z,q1⟩:=iL h4.1 (k:=GH) ⟨_,KL.J,rfl⟩;rw[e] at hp1;exact absurd (cS hp1 q1) (by decide)
   have kb:V.af (λk=>k=GH) w1 (w1.setCell ⟨GH,0,none⟩ .nilIface):=aoZ _ _ GH 0 _ (V.af.refl _ _);have hp2:=cL kb hp1 hgb;refine⟨0,rfl,(aoW hp2 3).trans (by show some (Value.slice q.J q.du.length q.fA)=_;rw[KL.du,KL.J];rfl),ay hp2 3,?_⟩;refine⟨{ g' with aN:=g'.aN.set i { q with du:= [] } },K',tD,e2,?_,s.trans ((aO.up hu1).trans gK)⟩;refine(congrArg (λz=>aU B _ z K' tD _) ?_).mp h7;rw[ER,hj,H9,<- uN];simp[oa]
  .have KM:lk j1=false:=by simpa using oa
   refine(aiJ apn q.fA h9 a9 (by rw[uN];omega) qN.cell KM).mono ?_;rintro e w'⟨rfl,hu1⟩;have hp1:=aH hu1 apD;obtain⟨tD,h7,gK⟩:=(h.up hu1).restore GF GG hu;rw[qN.du,qN.J] at h7 gK;refine⟨1,rfl,(aoW hp1 3).trans (by show some (Value.slice q.J q.du.length q.fA)=_;rw[qN.du,qN.J];rfl),ay hp1 3,g',K',tD,e2,?_,s.trans ((aO.up hu1).trans gK)⟩;have dt:KJ= { c with aw:=c.aw.set i { d with jobs:=(mj d.jobs v.m).1 },cZ:=c.cZ++(mj d.jobs v.m).2 } :=by
    rw[ER,hj,H9,<- uN];simp[KM]
   rw[<- dt];exact h7
 have Gt:=aoU hsend;have Bv:=aoU hdone;have tR:=aoU hend;have ji:=aoU hq;have Ef:=aoU (show({ c with aw:=c.aw.set i { d with jobs:= [j1] } } :cr).cZ.length<=1000 from lS);have hm:=F4;have aol:=aoU uN;have xH:mE aoY= .iface 77 (.agg #[.pointer (some ⟨aoY,0,none⟩)]):=rfl;rw[xH] at akF rR;rw[<- uN] at rR;clear hsend hdone hend H hq hd hu hj df ht hv hlen hok pU lS hfl hb J dJ jX uN xH hi;go_enter func54,ntmps54
 go_wp2_with fail;go_loopw[15] (λk wr=>(k= .int .i64 0/\wr=w)\/(k= .int .i64 1/\UO B i g c q d j1 K X w wr)) (λk _=>1-(intOf k).toNat)
 case atStart=>exact .inl ⟨rfl,rfl⟩
 case round=>
  rcases hrel with⟨rfl,rfl⟩|⟨rfl,hh⟩
  .go_wp2_with fail;refine rR.out.mono ?_;rintro e w1⟨rfl,fO,aA,H1,qE⟩;have zI:=aoU H1;have vD:=aoU qE;clear H1 qE rR;go_wp2_with fail;refine(Gt.out w1 fO aA zI.out).mono ?_;rintro e w2⟨rfl,ms',jY,cD,H2,pu⟩;have rE:=aoU H2;have jo:=aoU (vD.out.trans pu);clear H2 pu Gt zI vD;go_wp2_with fail;refine(Bv.out ms' w2 jY cD rE.out).mono ?_;rintro e w3⟨R,rc,rfl,ho,bV⟩;have np:∀k,bg R k->w2.heap.size<=k/\k<w3.heap.size:=λk ⟨a,e1,e2⟩=>by
    subst e1 e2;exact jO ho a.block rfl
   obtain⟨an,kE⟩:=bB (ao4 j1)
   rw[<- kE] at ho|-;have Bf:=aoU kE;have hal:=(aoV.refl w3).alloc (.cells #[.int .u64 an.id,.int .i64 an.c.kind,.int .i64 an.c.s,.int .u64 an.c.t,.int .i64 an.c.x,.int .i64 an.e,.int .u64 an.v,.slice R an.l.length rc] 32);have aL:=bp w3 (.cells #[.int .u64 an.id,.int .i64 an.c.kind,.int .i64 an.c.s,.int .u64 an.c.t,.int .i64 an.c.x,.int .i64 an.e,.int .u64 an.v,.slice R an.l.length rc] 32);have OL:=aoU (aU.shut rE.out (bV.trans hal) (λk hk=>⟨(np k hk).1,cg (np k hk).2 hal.size⟩))
   have FR:=aoU (show jB (λk=>jY k\/bg R k) (w3.alloc (.cells #[.int .u64 an.id,.int .i64 an.c.kind,.int .i64 an.c.s,.int .u64 an.c.t,.int .i64 an.c.x,.int .i64 an.e,.int .u64 an.v,.slice R an.l.length rc] 32)) 5 R an.l.length (bl an.l) from⟨(Rd.own ho).up hal,λh0 a ha=> .inr ⟨a,ha,rfl⟩⟩);have mC:¬cD w3.heap.size:=λh=>by have:=(rE.out.lt h).2;have:=bV.size;omega
   unfold Kl;clear np kE ho Bv;by_cases oa:lk j1=true
   .rw[oa];go_wp2_with fail;generalize cN:w3.alloc (.cells #[.int .u64 an.id,.int .i64 an.c.kind,.int .i64 an.c.s,.int .u64 an.c.t,.int .i64 an.c.x,.int .i64 an.e,.int .u64 an.v,.slice R an.l.length rc] 32)=wb at *;generalize w3.heap.size=nB at *;clear cN;obtain⟨H4,mF⟩:=OL.out;have hfl:=H4.flat.bL;obtain⟨hrow,GA⟩:=H4.ahV;obtain⟨n,hn⟩:=bB g.ie.length
    have hnl:n<=1000:=by
     have h9:=congrArg List.length rE.out.ok.cZ;rw[iZ] at h9;have:=Ef.out;have h9:g.ie.length=c.cZ.length:=h9;have h8:c.cZ.length<=1000:=Ef.out;omega
    have ff:=aoU hn;have c4:(jC { g with ms:=ms' } { c with aw:=c.aw.set i { d with jobs:= [j1] } })[4]?=some (.slice g.A n g.ac):=by rw[hn];rfl
    have hrow:wb.ownsRow B 32 8 (.slice g.A n g.ac) n (nY g.ie):=by rw[hn];exact hrow
    have Sj:=aoU c4;have akH:¬bg g.A g.gc:=λhk=>by
     obtain⟨cs,z,q1⟩:=iL hrow hk;exact absurd (cS q1 hfl) (by decide)
    have Ux:nB≠g.gc:=λe=>by
     rw[e] at aL;exact absurd (cS aL hfl) (by decide)
    have akI:¬bg g.A nB:=λhk=>mC (GA nB hk)
    have hBw:B<=wb.heap.size:=by
     have h1:=(H4.lt H4.xu).1;have h2:=(H4.lt H4.xu).2;omega
    have nK:=aoU H4;have tI:=aoU mF;have US:=aoU GA;clear c4 H4 mF hn OL GA
    apply V.iE (lT B g.gc 4 (jC { g with ms:=ms' } { c with aw:=c.aw.set i { d with jobs:= [j1] } }) 58 g.A n g.ac 32 8 (nY g.ie) [.int .u64 an.id,.int .i64 an.c.kind,.int .i64 an.c.s,.int .u64 an.c.t,.int .i64 an.c.x,.int .i64 an.e,.int .u64 an.v,.slice R an.l.length rc] (λW=>W.heap[nB]?=some (.cells #[.int .u64 an.id,.int .i64 an.c.kind,.int .i64 an.c.s,.int .u64 an.c.t,.int .i64 an.c.x,.int .i64 an.e,.int .u64 an.v,.slice R an.l.length rc] 32 (0,0))) 6 wb) (by kernel_rfl) (by kernel_rfl) (λvs=>lT.start hfl hrow (aH (aoV.drew (aoV.refl wb)) aL) vs)
    .intro aF aoX;iterate 4 (apply V.az.ok;intros;go_simp;rfl;rfl;go_frame)
     apply V.az.early 10 2
     .intro i vs ag hi hS;have c1:ag.cell? ⟨g.gc,4,none⟩=some (.slice g.A n g.ac):=(aoW (hS.blk hi) 4).trans Sj.out;clear hS;go_simp
      with_reducible rfl
     .rfl
     simp only[au,Nat.reduceAdd];iterate 1 (apply V.az.ok;(· intro i vs ag hS;have aL:=hS.more;obtain⟨d0,d1,d2,d3,d4,d5,d6,d7⟩:=yP aL;clear hS aL;go_simp;(try with_reducible rfl));(· rfl);simp only[au,Nat.reduceAdd])
     apply V.az.cG;rfl
     .intro vs ag hS cY ah;have aS:=ah.out _ _ (lT.build hS (λW' yq h=>aH yq h) (by rfl));have aK:=aoU aS;clear aS ah hS
      (try simp only[au,Nat.reduceAdd] at aK)
      go_simp;exact aK.out
     simp only[au,Nat.reduceAdd];apply V.az.cG;rfl
     .intro vs ag hS cY ah;obtain⟨Q,hv7,DT⟩:=hS.one rfl;have hsz:=hS.kept.size
      (try dsimp only at ah hv7|-)
      rw[hv7] at ah|-;refine uP _ _ _ TG rfl rfl rfl (hS.row (by decide)) (Rd.own DT) (TH ⟨an,R,rc⟩) (by omega) (by omega) (by omega) λv' ai ho' hg' m8=>?_
      obtain⟨L',rc',rfl⟩:=eL ho';exact ah.out _ _ (lT.append hS akH (λhK h=>cL hK h akI) ho' hg' m8)
     simp only[au,Nat.reduceAdd];iterate 2 (apply V.az.ok;intros;go_simp;rfl;rfl;go_frame)
     apply V.az.call undef;rfl
     .intro vs ag hS cY ah;have c1:=(aoW (hS.blk (by decide)) 4).trans Sj.out;have s1:=ay (hS.blk (by decide)) 4;obtain⟨L',rc',nV,B0⟩:=lT.store hS (by decide) (λv hK h=>cL hK h Ux);have aS:=ah.out _ B0;have aK:=aoU aS;clear ah aS hS B0
      (try dsimp only at aK nV|-)
      rw[nV] at aK|-;clear nV
      (try simp only[au,Nat.reduceAdd] at aK)
      go_simp;exact aK.out
     simp only[au,Nat.reduceAdd];apply V.az.fin;intro vs ag hS;obtain⟨L',rc',f1,f2,f3⟩:=hS.fin rfl;have oS:=hS.kept;refine aoX.out _ _ ?_;clear aoX hS
     (try dsimp only)
     have KN:UO B i g c q d j1 K X wr ag:=by
      obtain⟨ep,h5,jy⟩:=aU.answer (v:=⟨an,R,rc⟩) (L':=L') (rc':=rc') nK.out FR.out (by rw[<- ff.out];exact f1) (by rw[<- ff.out];exact f2) f3 oS;refine⟨{ g with ms:=ms',A:=L',ac:=rc',ie:=g.ie++[⟨an,R,rc⟩] },_,ep,rfl,rfl,?_,jo.out.trans (tI.out.trans jy)⟩;rw[if_pos oa,<- Bf.out];exact h5
     have EF:=aoU KN;clear KN f1 f2 f3 oS;go_wp2_with fail;exact⟨.inr ⟨rfl,EF.out⟩,by simp[intOf]⟩
    .kernel_rfl
   .have KM:lk j1=false:=by simpa using oa
    rw[KM];have KN:UO B i g c q d j1 K X wr (w3.alloc (.cells #[.int .u64 an.id,.int .i64 an.c.kind,.int .i64 an.c.s,.int .u64 an.c.t,.int .i64 an.c.x,.int .i64 an.e,.int .u64 an.v,.slice R an.l.length rc] 32)):=by
     obtain⟨H4,mF⟩:=OL.out;refine⟨{ g with ms:=ms' },_,cD,rfl,rfl,?_,jo.out.trans mF⟩;rw[if_neg oa,List.append_nil];exact H4
    have EF:=aoU KN;clear KN OL FR aL oa KM;go_wp2_with fail;exact⟨.inr ⟨rfl,EF.out⟩,by simp[intOf]⟩
  .obtain⟨g',K',X',e2,e1,h,s⟩:=hh;obtain⟨UR,akJ,hde⟩:=tR.out g' K' X' wr _ rfl e1 e2 h s;have qv:=aoU hde;clear hde h s tR rR Gt Bv;go_wp2_with fail;refine qv.out.mono ?_;rintro e w1⟨n,rfl,aom,aon,hp⟩;have ib:=aoU hp;clear hp qv UR akJ;go_wp2_with fail;exact bodyPost_end (kV rfl _ _ _) rfl ⟨rfl,ib.out⟩
end
theorem akK{x:aC}(hx:BL x)(c:dT)(h:∀g∈c.cW,g.1=0/\∃b,g.2=gB x b):(vj c).length<=1:=by
 obtain⟨b,hb⟩:=T0 hx c.cW h;have akL:c.cW.foldl (λm g=>max m g.1) 0=0:=by
  rw[TQ c.cW 0 (C:=0) (λg hg=>(h g hg).1)];split <;>rfl
 unfold vj;rw[akL];have e:c.cW.foldl (λout g=>jk out (if g.1<0 then g.2.filter (λx=>decide (0<x.v.toNat)) else g.2)) []=gB x b:=by
  rw[<- hb];unfold vT
  congr 1
 dsimp only;rw[e];exact bQ (List.length_filter_le _ _) (Od x b)
theorem akM{i:Nat}{j:dT}{m:eU}(df:Gk i j m):(ao4 (gG j m)).l.length<=100000:=by
 obtain⟨x,hx,hs,hg,fW,tK⟩:=df.bI;have hno:∀c:dT,c.fin=none->(ao4 c).l.length<=100000:=λc h=>by unfold ao4;rw[h];decide
 have kP:∀(c:dT)(f:Nat),c.fin=none->(∀g∈c.cW,g.1=0/\∃b,g.2=gB x b)->(ao4 (pN c f)).l.length<=100000:=λc f h1 h2=>by
  unfold pN;dsimp only;split
  .show(if (0:Nat)=0 then vj _ else []).length<=100000;rw[if_pos rfl];exact bQ (akK hx _ h2) (by decide)
  .exact hno _ h1
 unfold gG;split;exact hno _ df.fin
 .split
  .show([]:List aC).length<=100000;decide
  .split
   .rename_i h5;obtain⟨h50,b,hb⟩:=tK h5.2;refine kP _ _ df.fin (λg hg'=>?_);rcases List.mem_append.1 hg' with hg'|hg'
    .exact hg g hg'
    .rw[fi] at hg';rw[hg'];exact⟨h50,b,hb⟩
   .split;exact hno _ df.fin;exact kP _ _ df.fin hg
theorem akN(l:List eU):∀net:List eU,(kO net l).length<=net.length+l.length:=by
 induction l with
 |nil=>intro net;simp[kO]
 |cons m r ih=>
  intro net;have h1:(A8 net m).length<=net.length+1:=by
   unfold A8;split
   .split
    .rw[List.length_drop,dG,List.length_singleton];omega
    .rw[dG,List.length_singleton];omega
   .omega
  have h2:=ih (A8 net m);unfold kO at h2|-;rw[List.foldl_cons,iu];omega
theorem akO(i:Nat)(d:bA)(m:eU):(jl i d m).2.length<=1:=by
 unfold jl
 (repeat' split) <;>simp
theorem UT(i:Nat)(d:bA)(m:eU):(jl i d m).1.jobs=d.jobs/\(jl i d m).1.up=d.up:=by
 unfold jl Fg
 (repeat' split) <;>exact⟨rfl,rfl⟩
section
variable{B:Nat}{g:dI}{c:cr}{K X:aD}{w:World}
def OM(B:Nat)(g:dI)(c:cr)(K X:aD)(w w':World):Prop:=∃(g':dI)(K' X':aD),g'.gc=g.gc/\aU B g' (qx c) K' X' w'/\aO K X w K' X' w'
theorem akP{v:em}{r:List eU}{d:bA}(hn:c.net=v.m::r)(hd:c.aw[v.m.t]?=some d)(hu:d.up=false):qx c= { c with net:=r } :=by
 unfold qx;rw[hn];dsimp only;rw[hd];dsimp only;rw[if_pos hu]
theorem akQ{v:em}{r:List eU}{d:bA}(hn:c.net=v.m::r)(hd:c.aw[v.m.t]?=some d)(hu:d.up=true):qx c=
 { c with aw:=c.aw.set v.m.t { (jl v.m.t { d with bE:=sd d.bE v.m } v.m).1 with jobs:=(mj d.jobs v.m).1 },net:=kO r (jl v.m.t { d with bE:=sd d.bE v.m } v.m).2,cZ:=c.cZ++(mj d.jobs v.m).2 } :=by
 have hj:=(UT v.m.t { d with bE:=sd d.bE v.m } v.m).1;unfold qx;rw[hn];dsimp only;rw[hd];dsimp only;rw[if_neg (by rw[hu];decide),hj]
theorem akR{m:eU}{r:List eU}{d:bA}(H:aU B g c K X w)(df:TC c m r d)(Ol:c.aw.length<=7)(lS:c.cZ.length<=1000):
 Calls prog 29 #[.pointer (some ⟨g.gc,0,none⟩),.int .i64 0] w λe w'=>e= .returned (.bool true)/\OM B g c K X w w':=by
 obtain⟨v,ms,Gx,uw,hmr⟩:∃v ms,g.ms=v::ms/\v.m=m/\ms.map (·.m)=r:=by
  have h:=H.ok.net;rw[df.net] at h;cases hg:g.ms with
  |nil=>rw[hg] at h;cases h
  |cons v ms=>
   rw[hg,List.map_cons] at h;injection h with h1 h2;exact⟨v,ms,rfl,h1,h2⟩
 subst uw;have hd:=df.nd;have hin:=(gM hd);obtain⟨cD,n2,a2,x2,ex,put⟩:=H.TF;rw[Gx] at n2;have nc:jB K w 5 v.A v.m.l.length (bl v.m.l)/\v.m.l.length<=v.c:=by
  obtain⟨L,rc,lost,sent,-,-,-,-,h5⟩:=n2;exact h5 v gN
 have c2:w.cell? ⟨g.gc,2,none⟩=some (.pointer (some ⟨g.gt,0,none⟩)):=aoW H.flat.bL 2;have hml:ms.length<=200:=by have:=df.N0;rw[<- hmr,iZ] at this;exact this
 have LW:=aoU (acB n2 a2 (by omega));obtain⟨c1,hc1⟩:∃c1:cr,c1= { c with net:=r } :=⟨_,rfl⟩
 have Nc:∀(w1:World),qz B g.gt ms K cD w1->aO K cD w K cD w1->cy K cD w1->∃X',aU B { g with ms:=ms } c1 K X' w1/\aO K X w K X' w1:=λw1 h s a=>by
  obtain⟨X',h7,gK⟩:=put ms K cD w1 h s a;rw[hmr,<- hc1] at h7;exact⟨X',h7,gK⟩
 have o5:=aoU Nc;have dr:=aoU H;have cO:=aoU df;have fS:=aoU nc;have mN:=aoU hc1;have iw:=aoU lS;have jX:c1.aw[v.m.t]?=some d:=by rw[hc1];exact hd
 have akS:c1.aw.length<=7:=by rw[hc1];exact Ol
 have KO:=aoU jX;have akT:=aoU (λ(hu:d.up=false)=>(akP df.net hd hu).trans hc1.symm);have akU:=aoU (λ(hu:d.up=true)=>akQ df.net hd hu);clear H df nc hd Nc put n2 a2 x2 ex Gx hmr hc1 lS jX hin hml;go_enter func29,ntmps29
 go_wp2_with fail;refine LW.out.mono ?_;rintro e w1⟨rfl,fj,hs1,AQ⟩;obtain⟨aA,H1,qE⟩:=o5.out w1 fj hs1 AQ;have hal:=(aoV.refl w1).alloc (.cells #[.int .i64 v.m.k,.int .i64 v.m.f,.int .i64 v.m.t,.int .u64 v.m.id,.int .u64 v.m.n,.slice v.A v.m.l.length v.c] 135);have aL:=bp w1 (.cells #[.int .i64 v.m.k,.int .i64 v.m.f,.int .i64 v.m.t,.int .u64 v.m.id,.int .u64 v.m.n,.slice v.A v.m.l.length v.c] 135);have H2:=H1.up hal;have pu:=qE.trans (aO.up (K:=K) (X:=aA) hal);have vE:¬aA w1.heap.size:=λh=>by have:=(H1.lt h).2;omega
 have vF:¬K w1.heap.size:=λh=>by have:=H1.jA.lt _ h;omega
 have wq:=aoU (fS.out.1.Db dr.out.jA pu);have lP:=aoU (apB H2 KO.out akS);have rE:=aoU H2;have jo:=aoU pu;clear fj hs1 AQ H1 qE H2 pu o5 LW c2;go_wp2_with fail;generalize cN:w1.alloc (.cells #[.int .i64 v.m.k,.int .i64 v.m.f,.int .i64 v.m.t,.int .u64 v.m.id,.int .u64 v.m.n,.slice v.A v.m.l.length v.c] 135)=wb at *;generalize w1.heap.size=nB at *;clear cN hal;refine lP.out.mono ?_;rintro e w2⟨rfl,rfl⟩;cases hu:d.up
 .have dz:=aoU (show OM B g c K X w w2 from⟨{ g with ms:=ms },K,aA,rfl,by rw[akT.out hu];exact rE.out,jo.out⟩);clear aL lP;go_wp2_with fail;go_ret;exact⟨rfl,dz.out⟩
 .obtain⟨q,hq⟩:=rE.out.get KO.out;have P:=rE.out.of hq KO.out;obtain⟨hi,⟨pW,tS,hP,hr⟩,dJ⟩:=P;rw[if_pos hu] at dJ;have Gq:((v.m.t:Int)<(g.aN.length:Int)):=by
   have hi:v.m.t<g.aN.length:=hi;omega
  have hP:g.P=some ⟨pW,tS,none⟩:=hP;have c0:w2.cell? ⟨g.gc,0,none⟩=some (.slice (some ⟨pW,tS,none⟩) g.aN.length g.pc):=(aoW rE.out.flat.bL 0).trans (by rw[<- hP];rfl);have hcell:∀W,aoV w2 W->aoV w2 W/\W.cell? ⟨g.gc,0,none⟩=some (.slice (some ⟨pW,tS,none⟩) g.aN.length g.pc)/\W.cell? ⟨nB,2,none⟩=some (.int .i64 v.m.t)/\W.cell? ⟨pW,tS+v.m.t,none⟩=some (.pointer (some ⟨q.aE,0,none⟩)):=λW hW=>
   ⟨hW,(mv (a:=⟨g.gc,0,none⟩) (hW.block _ (Lib.lt_of_cell c0))).trans c0,aoW (aH hW aL) 2,(mv (a:=⟨pW,tS+v.m.t,none⟩) (hW.block _ (Lib.lt_of_cell hr))).trans hr⟩
  have cB:=aoU hcell;have mK:=aoU aL;have oh:=aoU dJ;have ji:=aoU hq;have kG:=aoU hu;clear hcell hP c0 hr hi aL dJ hq hu lP;go_wp2_with fail;apply V.fQ _ (by kernel_rfl) (by kernel_rfl) cB.out
  .intro aF aoX;iterate 9 (apply V.aj.ok;intros;go_simp;rfl;rfl;go_frame)
   apply V.aj.fin [];intro vs w1 hK hS _;refine aoX.out _ _ ?_;clear aoX;obtain⟨bV,-,-,-⟩:=hS;have H3:=rE.out.up bV;have pr:=jo.out.trans (aO.up (K:=K) (X:=aA) bV);have UU:=aH bV mK.out;have UV:=aH bV oh.out;have ON:=wq.out.up bV;obtain⟨w3,tm⟩:=bB w1
   rw[<- tm] at H3 pr UU UV ON|-;clear tm bV cB;obtain⟨c2,kJ⟩:∃c2:cr,c2= { c1 with aw:=c1.aw.set v.m.t { d with bE:=sd d.bE v.m } } :=⟨_,rfl⟩
   have tT:v.m.k<=5:=by
    have:=(cO.out.hand kG.out).how;omega
   have VB:∀W,aoV w3 W->Calls prog 52 #[.pointer (some ⟨q.gk,0,none⟩),.agg #[.int .i64 v.m.k,.int .i64 v.m.f,.int .i64 v.m.t,.int .u64 v.m.id,.int .u64 v.m.n,.slice v.A v.m.l.length v.c]] W λe w'=>e= .returned (.tuple #[])/\∃X',aU B { g with ms:=ms } c2 K X' w'/\aO K aA W K X' w':=λW hW=>by
    rw[kJ];exact akv (H3.up hW) ji.out KO.out kG.out v (ON.up hW) cO.out.ok tT
   have dw:c2.aw[v.m.t]?=some { d with bE:=sd d.bE v.m } :=by rw[kJ];exact nC (gM KO.out)
   have R7:∀(X':aD)(W:World),aU B { g with ms:=ms } c2 K X' W->W.heap[q.aE]?=some (.cells (ox q) 66 (0,0)):=λX' W h=>h.Gr ji.out dw kG.out
   have pe:=aoU VB;have Ji:=aoU dw;have vv:=aoU R7;have eJ:=aoU kJ;have pD:=aoU H3;have Ac:=aoU pr;have Z5:=aoU ON;have UW:=aoU UU;have Ab:=aoU UV;clear VB dw R7 kJ H3 pr ON UU UV wq mK oh rE jo;go_wp2_with fail
   apply V.iE (λk vs W=>(W.heap[q.aE]?=some (.cells (ox q) 66 (0,0))/\W.heap[nB]?=some (.cells #[.int .i64 v.m.k,.int .i64 v.m.f,.int .i64 v.m.t,.int .u64 v.m.id,.int .u64 v.m.n,.slice v.A v.m.l.length v.c] 135 (0,0)))/\(k=0->aoV w3 W)/\(k=1->∃X',aU B { g with ms:=ms } c2 K X' W/\aO K aA w3 K X' W))
    (by kernel_rfl) (by kernel_rfl) (λvs=>⟨⟨aH (aoV.drew (aoV.refl w3)) Ab.out,aH (aoV.drew (aoV.refl w3)) UW.out⟩,λ_=>aoV.drew (aoV.refl w3),λe=>absurd e (by decide)⟩)
   .intro aF aoX;iterate 5 (apply V.az.ok;(· intro k vs W hS;have p2:=aoW hS.1.1 2;have aL:=hS.1.2;obtain⟨m0,m1,m2,m3,m4,m5⟩:=iQ aL;clear hS aL;unfold ox at p2;go_simp;(try with_reducible rfl));(· rfl);simp only[au,Nat.reduceAdd])
    apply V.az.call (.tuple #[]);rfl
    .intro vs W hS cY ah;obtain⟨⟨b1,b2⟩,k1,-⟩:=hS;have bh:=aoU (pe.out W (k1 rfl));have Jc:=aoU (k1 rfl);clear k1 b1;go_simp;refine bh.out.mono ?_;rintro e W'⟨rfl,X',h7,gK⟩;have hnb:¬aA nB:=vE;exact ah.out _ ⟨⟨vv.out X' W' h7,cL gK.kept b2 hnb⟩,λe=>absurd e (by decide),λ_=>⟨X',h7,(aO.up Jc.out).trans gK⟩⟩
    simp only[au,Nat.reduceAdd];apply V.az.fin;intro vs w4 hS;obtain⟨⟨tE,b4⟩,-,k2⟩:=hS;obtain⟨ng,H4,mF⟩:=k2 rfl;refine aoX.out _ _ ?_;clear aoX k2
    (try dsimp only)
    obtain⟨-,OP,OQ⟩:=mF.box UW.out vE vF;have UX:=Z5.out.Db pD.out.jA mF;obtain⟨d2,dw⟩:∃d2:bA,d2= { d with bE:=sd d.bE v.m } :=⟨_,rfl⟩
    have UY:d2.up=true:=by rw[dw];exact kG.out
    have OR:=Ji.out;rw[<- dw] at OR;have bf:TB d2 v.m:=by
     obtain⟨⟨o1,o2,oW,xg,CL⟩,how⟩:=cO.out.hand kG.out;rw[dw];exact⟨⟨o1,o2,oW,xg,CL⟩,how⟩
    have Y3:∀a∈(jl v.m.t d2 v.m).2,gT a=true:=by rw[dw];exact cO.out.cZ kG.out
    have Y5:∀W,aoV w4 W->Calls prog 53 #[.pointer (some ⟨q.gn,0,none⟩),.agg #[.int .i64 v.m.k,.int .i64 v.m.f,.int .i64 v.m.t,.int .u64 v.m.id,.int .u64 v.m.n,.slice v.A v.m.l.length v.c]] W λe w'=>∃L n lc vs q' K' X',e= .returned (.slice L n lc)/\KI B v.m.t { g with ms:=ms } c2 q d2 v.m K ng W L n vs w' q' K' X':=λW hW=>
     akz (H4.up hW) ji.out OR UY v bf rfl (UX.up hW) fS.out.2 cO.out.ok Y3
    obtain⟨c3,KP⟩:∃c3:cr,c3= { c2 with aw:=c2.aw.set v.m.t (jl v.m.t d2 v.m).1 } :=⟨_,rfl⟩
    have I2:∀q':dU,(g.aN.set v.m.t q')[v.m.t]?=some q':=λq'=>nC (gM ji.out)
    have iJ:c3.aw[v.m.t]?=some (jl v.m.t d2 v.m).1:=by rw[KP];exact nC (gM OR)
    have bV:(jl v.m.t d2 v.m).1.up=true:=(UT _ _ _).2.trans UY;have akV:c3.net.length<=200:=by rw[KP,eJ.out,mN.out];exact cO.out.N0
    obtain⟨c4,AK⟩:∃c4:cr,c4= { c3 with net:=kO c3.net (jl v.m.t d2 v.m).2 } :=⟨_,rfl⟩
    have hsend:∀(L:Option Addr)(n lc:Nat)(vs:List em)(q':dU)(K' X':aD)(W:World),KI B v.m.t { g with ms:=ms } c2 q d2 v.m K ng w4 L n vs W q' K' X'->Calls prog 49 #[.pointer (some ⟨g.gc,0,none⟩),.slice L n lc] W λe w'=>e= .returned (.tuple #[])/\∃(ms':List em)(zu tD:aD),aU B { g with ms:=ms',aN:=g.aN.set v.m.t q' } c4 zu tD w'/\aO K' X' W zu tD w':=λL n lc vs q' K' X' W h=>by
     have cn:=h.bL;rw[<- KP] at cn;have:=Ub cn L n lc vs h.rd h.ap h.bI (by have:=h.n;omega);rw[h.ms,<- AK] at this;exact this
    have US:=aoU Y5;have kW:=aoU hsend;have gP:=aoU KP;have ua:=aoU AK;have wC:=aoU iJ;have yE:=aoU bV;have Jl:=aoU dw;have KQ:=aoU I2;have nK:=aoU H4;have tI:=aoU (Ac.out.trans mF);have G2:=aoU UX;have rz:=aoU b4;have MT:=aoU tE;clear Y5 hsend KP AK iJ bV akV dw I2 bf Y3 H4 mF UX b4 tE UY OR pe pD Ac Z5 UW Ab vE vF;go_upto_region 7 with fail
    have ur:c4.aw[v.m.t]?=some (jl v.m.t d2 v.m).1:=by rw[ua.out];exact wC.out
    have Fx:=aoU ur;clear ur;apply V.iE (λk vs W=>(W.cell? ⟨q.aE,1,none⟩=some (.pointer (some ⟨q.gn,0,none⟩))/\W.heap[nB]?=some (.cells #[.int .i64 v.m.k,.int .i64 v.m.f,.int .i64 v.m.t,.int .u64 v.m.id,.int .u64 v.m.n,.slice v.A v.m.l.length v.c] 135 (0,0)))/\(k=0->aoV w4 W)/\
     (k=1->∃L n lc us q' K' X',vs 6= .slice L n lc/\KI B v.m.t { g with ms:=ms } c2 q d2 v.m K ng w4 L n us W q' K' X')/\
     (k=2->∃ms' q' K' X',q'.aE=q.aE/\aU B { g with ms:=ms',aN:=g.aN.set v.m.t q' } c4 K' X' W/\aO K ng w4 K' X' W))
     (by kernel_rfl) (by kernel_rfl) (λvs=>⟨⟨aoW (aH (aoV.drew (aoV.refl w4)) MT.out) 1,aH (aoV.drew (aoV.refl w4)) rz.out⟩,λ_=>aoV.drew (aoV.refl w4),λe=>absurd e (by decide),λe=>absurd e (by decide)⟩)
    .intro aF aoX;iterate 6 (apply V.az.ok;(· intro k vs W hS;have p1:=hS.1.1;have aL:=hS.1.2;obtain⟨m0,m1,m2,m3,m4,m5⟩:=iQ aL;clear hS aL;go_simp;(try with_reducible rfl));(· rfl);simp only[au,Nat.reduceAdd])
     apply V.az.cG;rfl
     .intro vs W hS cY ah;obtain⟨⟨b1,b2⟩,k1,-⟩:=hS;have bh:=aoU (US.out W (k1 rfl));have Jc:=aoU (k1 rfl);clear k1 b1;go_simp;refine bh.out.mono ?_;rintro e W'⟨L,n,lc,us,q',K',X',rfl,h⟩;have hb':=h.st.box b2 OP OQ;have hpc:W'.cell? ⟨q.aE,1,none⟩=some (.pointer (some ⟨q.gn,0,none⟩)):=by
       have cn:=h.bL;rw[<- gP.out] at cn;have:=aoW (cn.Gr (KQ.out q') wC.out yE.out) 1;rw[h.aE] at this;rw[this];show some (Value.pointer (some ⟨q'.gn,0,none⟩))=_;rw[h.gn]
      exact ah.out _ W' ⟨⟨hpc,hb'.1⟩,λe=>absurd e (by decide),λ_=>⟨L,n,lc,us,q',K',X',by rw[V.eV],⟨h.aE,h.gn,h.bL,(aO.up Jc.out).trans h.st,h.rd,h.ap,h.bI,h.ms,h.n⟩⟩,λe=>absurd e (by decide)⟩
     simp only[au,Nat.reduceAdd];apply V.az.call (.tuple #[]);rfl
     .intro vs W hS cY ah;obtain⟨⟨b1,b2⟩,-,k2,-⟩:=hS;obtain⟨L,n,lc,us,q',K',X',iq,h⟩:=k2 rfl;have bh:=aoU (kW.out L n lc us q' K' X' W h);have hb:=h.st.box rz.out OP OQ;have OS:=aoU h;clear k2 b1 h
      (try dsimp only at ah|-)
      rw[iq] at ah|-;clear iq;go_simp;refine bh.out.mono ?_;rintro e W'⟨rfl,ms',zu,tD,h7,gK⟩;have hpc:W'.cell? ⟨q.aE,1,none⟩=some (.pointer (some ⟨q.gn,0,none⟩)):=by
       have:=aoW (h7.Gr (KQ.out q') Fx.out yE.out) 1;rw[OS.out.aE] at this;rw[this];show some (Value.pointer (some ⟨q'.gn,0,none⟩))=_;rw[OS.out.gn]
      exact ah.out W' ⟨⟨hpc,(gK.box b2 hb.2.1 hb.2.2).1⟩,λe=>absurd e (by decide),λe=>absurd e (by decide),λ_=>⟨ms',q',zu,tD,OS.out.aE,h7,OS.out.st.trans gK⟩⟩
     simp only[au,Nat.reduceAdd];apply V.az.fin;intro vs ai hS;obtain⟨-,-,-,k2⟩:=hS;obtain⟨ms',q',qG,ep,qM,H5,mG⟩:=k2 rfl;refine aoX.out _ _ ?_;clear aoX k2
     (try dsimp only)
     obtain⟨kB,-,-⟩:=mG.box rz.out OP OQ;have uf:=G2.out.Db nK.out.jA mG;have UZ:c4.net.length<=290:=by
      rw[ua.out];have h1:=akN (jl v.m.t d2 v.m).2 c3.net;have h2:=akO v.m.t d2 v.m;have h3:c3.net.length<=200:=by rw[gP.out,eJ.out,mN.out];exact cO.out.N0
      show(kO c3.net (jl v.m.t d2 v.m).2).length<=290;omega
     have IA:c4.cZ.length<=1000:=by rw[ua.out,gP.out,eJ.out,mN.out];exact iw.out
     have hjj:(jl v.m.t d2 v.m).1.jobs=d.jobs:=by rw[(UT _ _ _).1,Jl.out]
     have hend:∀w',UP B v.m.t { g with ms:=ms',aN:=g.aN.set v.m.t q' } c4 (jl v.m.t d2 v.m).1 v.m qG ep ai w'->OM B g c K X w w':=λw' ⟨g',K',X',e1,h,s⟩=>by
      refine⟨g',K',X',e1,?_,tI.out.trans (mG.trans s)⟩;rw[akU.out kG.out];rw[hjj,ua.out,gP.out,eJ.out,mN.out,Jl.out] at h;simpa using h
     have LB:Calls prog 54 #[.pointer (some ⟨g.gc,0,none⟩),.pointer (some ⟨q.aE,0,none⟩),.func (.func 55) #[] #[.pointer (some ⟨nB,0,none⟩)]] ai λe w'=>e= .returned (.tuple #[])/\OM B g c K X w w':=by
      rw[<- qM];rcases cO.out.eE kG.out with hj|⟨j,hj,Z0⟩
      .refine(aiS H5 (KQ.out q') Fx.out yE.out (hjj.trans hj) v.m _).mono ?_;rintro e w'⟨rfl,h⟩;exact⟨rfl,hend w' h⟩
      .refine(akE H5 (KQ.out q') Fx.out yE.out (hjj.trans hj) v Z0 rfl uf cO.out.len cO.out.ok UZ IA (akM Z0) kB).mono ?_;rintro e w'⟨rfl,h⟩;exact⟨rfl,hend w' h⟩
     have zi:=aoU LB;clear LB hend hjj IA UZ uf kB H5 mG qM US kW gP ua wC Fx yE Jl KQ nK tI G2 rz MT OP OQ vv eJ Ji;go_wp2_with fail;refine zi.out.mono ?_;rintro e cH⟨rfl,hdp⟩;have akW:=aoU hdp;clear hdp zi;go_wp2_with fail;go_ret;exact⟨rfl,akW.out⟩
    .kernel_rfl
   .kernel_rfl
  .kernel_rfl
end
end
end Go.Proofs.YtfghplfgndppfaaGreatDoor
