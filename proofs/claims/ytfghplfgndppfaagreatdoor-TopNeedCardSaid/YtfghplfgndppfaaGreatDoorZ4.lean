/- Texts of this claim, joined: RegionE, RegionS, RegionT. -/
import Derived.Test.YtfghplfgndppfaaGreatDoorZ3
set_option linter.unusedVariables false
set_option linter.unusedSimpArgs false
set_option maxRecDepth 100000
set_option maxHeartbeats 8000000
namespace Go.Proofs.YtfghplfgndppfaaGreatDoor
namespace V
open Go Go.CheckFast Go.RowKit
structure ou where
 idx:Nat
 ch:Bool
 gs:Option (Nat×Tmp)
 eb:Option (Nat×Nat)
def Fk(ops:Array Oper):List Nat->List ou->Bool
 |_,[]=>true
 |seen,x::r=>(yN ops x.gs&&(bif x.ch then seen.all (sJ ops x.idx) else true))&&Fk ops (bif x.ch then x.idx::seen else seen) r
section
variable(P:Program)(aF:Act->World->Prop)(aP:Nat->bY->World->Prop)
inductive az:List Oper->Nat->Nat->(bY->Act)->List ou->Prop
 |done {k j:Nat} {b:bY->Act} (h:∀vs w,aP j vs w->aF (b vs) w):az [] k j b []
 |read {o:Oper} {rest:List Oper} {k j:Nat} {b:bY->Act} {out:List ou} (v:Value) (gs:Option (Nat×Tmp)) (eb:Option (Nat×Nat))
  (h:∀i vs w,(∀e c,eb=some (e,c)->i<=c)->aP i vs w->∃x,(Want o gs (b vs) x\/(x=false/\rJ o gs (b vs)))/\∀K:Act->World->Prop,Shut (∀w',aP i vs w'->K ((b vs).put o.dst v) w')->
   if x=true then o.wp P (b vs) w K (λ_ _ _=>False) else K ((b vs).put o.dst undef) w)
  (hr:az rest (k+1) j (λvs=>(b vs).put o.dst v) out):az (o::rest) k j b (⟨k,false,gs,eb⟩::out)
 |bL {o:Oper} {rest:List Oper} {k j:Nat} {b:bY->Act} {out:List ou} (v:Value) (gs:Option (Nat×Tmp))
  (h:∀vs w,aP j vs w->∃x,(Want o gs (b vs) x\/(x=false/\rJ o gs (b vs)))/\∀K:Act->World->Prop,Shut (∀w',aP (j+1) vs w'->K ((b vs).put o.dst v) w')->
   if x=true then o.wp P (b vs) w K (λ_ _ _=>False) else K ((b vs).put o.dst undef) w)
  (hr:az rest (k+1) (j+1) (λvs=>(b vs).put o.dst v) out):az (o::rest) k j b (⟨k,true,gs,none⟩::out)
 |op {o:Oper} {rest:List Oper} {k j:Nat} {b:bY->Act} {out:List ou} (gs:Option (Nat×Tmp))
  (h:∀vs w,aP j vs w->∃x,(Want o gs (b vs) x\/(x=false/\rJ o gs (b vs)))/\∀K:Act->World->Prop,Shut (∀v w',aP (j+1) (fU vs k v) w'->K ((b vs).put o.dst v) w')->
   if x=true then o.wp P (b vs) w K (λ_ _ _=>False) else K ((b vs).put o.dst undef) w)
  (hr:az rest (k+1) (j+1) (λvs=>(b vs).put o.dst (vs k)) out):az (o::rest) k j b (⟨k,true,gs,none⟩::out)
end
inductive ei where
 |rd (v:Value) (eb:Option (Nat×Nat))
 |bL (v:Value)
 |op
def ei.dl:ei->eF
 |.rd v _=> .bL v []
 |.bL v=> .bL v []
 |.op=> .cG (λ_ _=>True) (λ_ _=>False) [] []
def ei.ao2:ei->Bool
 |.rd _ _=>false
 |_=>true
def ei.eb:ei->Option (Nat×Nat)
 |.rd _ eb=>eb
 |_=>none
def ei.tell(d:ei):Bool×Option (Nat×Nat):=(d.ao2,d.eb)
def ou.tell(x:ou):Bool×Option (Nat×Nat):=(x.ch,x.eb)
def ab3(ops:Array Oper)(out:List ou):Bool:=(List.range out.length).all λk=>match out[k]? with
 |none=>true
 |some x=>match x.eb with
  |none=>true
  |some (e,c)=>sJ ops e k&&(match out[e]? with|none=>false|some y=>y.ch)&&decide ((out.take e).countP (·.ch)<=c)
def mD(D:List ei):Nat:=D.countP ei.ao2
def sg:List ei->Array Bool->Nat->Nat
 | [],_,_=>0
 |d::r,l,k=>(if d.ao2=true/\l.getD k false=true then 1 else 0)+sg r l (k+1)
theorem Yk:∀(D:List ei)(l l':Array Bool)(k:Nat),(∀c d,D[c]?=some d->d.ao2=true->l'.getD (k+c) false=l.getD (k+c) false)->sg D l' k=sg D l k
 | [],_,_,_,_=>rfl
 |d::r,l,l',k,h=>by
  unfold sg;rw[Yk r l l' (k+1) (λc d' hd hc=>by
   have:=h (c+1) d' (by simpa using hd) hc
   rwa[show k+(c+1)=k+1+c by omega] at this)]
  congr 1
  cases hd:d.ao2 with
  |false=>simp
  |true=>
   have h1:=h 0 d rfl hd;rw[Nat.add_zero] at h1;rw[h1]
theorem IQ:∀(D:List ei)(l:Array Bool)(k i:Nat),(∀c d,D[c]?=some d->d.ao2=true->(l.getD (k+c) false=true↔k+c<i))->sg D l k=mD (D.take (i-k))
 | [],_,_,_,_=>by simp[sg,mD]
 |d::r,l,k,i,h=>by
  unfold sg;have ih:=IQ r l (k+1) i (λc d' hd hc=>by
   have:=h (c+1) d' (by simpa using hd) hc
   rwa[show k+(c+1)=k+1+c by omega] at this)
  rw[ih];by_cases hk:k<i
  .rw[show i-k=(i-(k+1))+1 by omega,List.take_succ_cons];unfold mD;rw[List.countP_cons,Nat.add_comm]
   congr 1
   cases hd:d.ao2 with
   |false=>simp
   |true=>
    have h1:=(h 0 d rfl hd).2 (by omega);rw[Nat.add_zero] at h1;simp[h1]
  .rw[show i-k=0 by omega,show i-(k+1)=0 by omega,List.take_zero,List.take_zero];cases hd:d.ao2 with
   |false=>simp[mD]
   |true=>
    have h1:=h 0 d rfl hd;rw[Nat.add_zero] at h1;rw[if_neg (λh9=>hk (h1.1 h9.2))];simp[mD]
theorem Yl:∀(D:List ei)(l:Array Bool)(k i:Nat),(∀c d,D[c]?=some d->d.ao2=true->l.getD (k+c) false=true->k+c<i)->sg D l k<=mD (D.take (i-k))
 | [],_,_,_,_=>by simp[sg,mD]
 |d::r,l,k,i,h=>by
  unfold sg;have ih:=Yl r l (k+1) i (λc d' hd hc=>by
   have:=h (c+1) d' (by simpa using hd) hc
   rwa[show k+(c+1)=k+1+c by omega] at this)
  by_cases hk:k<i
  .rw[show i-k=(i-(k+1))+1 by omega,List.take_succ_cons];unfold mD at ih|-;rw[List.countP_cons,Nat.add_comm];refine Nat.add_le_add ih ?_;cases hd:d.ao2 with
   |false=>simp
   |true=>simp;split <;>omega
  .rw[show i-(k+1)=0 by omega,List.take_zero] at ih;rw[show i-k=0 by omega,List.take_zero];have hz:¬(d.ao2=true/\l.getD k false=true):=λh9=>hk (by have:=h 0 d rfl h9.1;rw[Nat.add_zero] at this;exact this h9.2)
   rw[if_neg hz,dV];exact ih
def IR(P:Program)(ops:Array Oper)(aP:Nat->bY->World->Prop)(a0:Act)(D:List ei)(k:Nat)(o:Oper):ei->Prop
 |.rd v eb=>∀i vs w,(∀e c,eb=some (e,c)->i<=c)->aP i vs w->qR P ops o (cV ops vs (D.map ei.dl) 0 a0) w λv' w'=>v'=v/\aP i vs w'
 |.bL v=>(∀c d,D[c]?=some d->d.ao2=true->Pre ops c k)/\∀vs w,aP (mD D) vs w->qR P ops o (cV ops vs (D.map ei.dl) 0 a0) w λv' w'=>v'=v/\aP (mD D+1) vs w'
 |.op=>(∀c d,D[c]?=some d->d.ao2=true->Pre ops c k)/\∀vs w,aP (mD D) vs w->qR P ops o (cV ops vs (D.map ei.dl) 0 a0) w λv w'=>aP (mD D+1) (fU vs k v) w'
section
variable{P:Program}{ops:Array Oper}{Q:Exit->Act->World->Prop}{aF:Act->World->Prop}{aP:Nat->bY->World->Prop}{a0:Act}
theorem az.data(hQ:∀a w,aF a w->Q .normal a w){rest:List Oper}{k j:Nat}{b:bY->Act}{out:List ou}(h:az P aF aP rest k j b out):
 ∀(D:List ei)(seen:List Nat),D.length=k->j=mD D->(∀c d,D[c]?=some d->d.ao2=true->c∈seen)->Fk ops seen out=true->(∀vs,b vs=cV ops vs (D.map ei.dl) 0 a0)->ops.toList.drop k=rest->k<=ops.size->
 ∃E:List ei,E.map ei.tell=out.map ou.tell/\(D++E).length=ops.size/\(∀j o d,E[j]?=some d->ops[k+j]?=some o->IR P ops aP a0 (D++E.take j) (k+j) o d)/\
  ∀vs w,aP (mD (D++E)) vs w->Q .normal (cV ops vs ((D++E).map ei.dl) 0 a0) w:=by
 have go:∀(o:Oper)(rest:List Oper)(D:List ei)(d:ei)(b:bY->Act)(x:ou)(out:List ou),d.tell=x.tell->ops.toList.drop D.length=o::rest->(∀vs,b vs=cV ops vs (D.map ei.dl) 0 a0)->IR P ops aP a0 D D.length o d->
  (∀D',D'=D++[d]->(∀vs,(b vs).put o.dst (d.dl.val D.length vs)=cV ops vs (D'.map ei.dl) 0 a0)->D.length+1<=ops.size->ops.toList.drop (D.length+1)=rest->∃E:List ei,E.map ei.tell=out.map ou.tell/\(D'++E).length=ops.size/\(∀j o d,E[j]?=some d->ops[D.length+1+j]?=some o->IR P ops aP a0 (D'++E.take j) (D.length+1+j) o d)/\
   ∀vs w,aP (mD (D'++E)) vs w->Q .normal (cV ops vs ((D'++E).map ei.dl) 0 a0) w)->
  ∃E:List ei,E.map ei.tell=(x::out).map ou.tell/\(D++E).length=ops.size/\(∀j o d,E[j]?=some d->ops[D.length+j]?=some o->IR P ops aP a0 (D++E.take j) (D.length+j) o d)/\
   ∀vs w,aP (mD (D++E)) vs w->Q .normal (cV ops vs ((D++E).map ei.dl) 0 a0) w:=by
  intro o rest D d b x out htl hr hb hA ih;have ho:ops.toList[D.length]?=some o:=by
   have:=congrArg List.head? hr
   rwa[List.head?_drop,List.head?_cons] at this
  have ho':ops[D.length]?=some o:=by simpa using ho
  obtain⟨E,h0,h1,h2,h3⟩:=ih _ rfl (λvs=>by
   rw[kU,apq,<- hb,dV,iZ];show _=(b vs).put (eW ops D.length) _;rw[eW,ho'];rfl) (aB ho') (by rw[<- List.drop_drop,hr];rfl)
  refine⟨d::E,by rw[List.map_cons,List.map_cons,h0,htl],by simpa using h1,λj o' d' hj kr=>?_,?_⟩
  .cases j with
   |zero=>
    obtain rfl:d=d':=by simpa using hj
    rw[Nat.add_zero] at kr|-;rw[ho'] at kr;injection kr with kr;subst kr;rw[List.take_zero,List.append_nil];exact hA
   |succ j=>
    have:=h2 j o' d' (by simpa using hj) (by rw[<- kr];congr 1;omega);rw[List.take_succ_cons];rw[show D.length+(j+1)=D.length+1+j by omega]
    rwa[jg] at this
  .intro vs w hS;have e:D++d::E=D++[d]++E:=by rw[jg];rfl
   rw[e] at hS|-;exact h3 vs w hS
 have chain:∀(D:List ei)(seen:List Nat)(k:Nat),(∀c d,D[c]?=some d->d.ao2=true->c∈seen)->seen.all (sJ ops k)=true->∀c d,D[c]?=some d->d.ao2=true->Pre ops c k:=λD seen k hs hm c d hd hc=>v8 (List.all_eq_true.1 hm c (hs c d hd hc))
 have more:∀(D:List ei)(seen:List Nat)(d:ei),(∀c d,D[c]?=some d->d.ao2=true->c∈seen)->∀c d',(D++[d])[c]?=some d'->d'.ao2=true->c∈(bif d.ao2 then D.length::seen else seen):=by
  intro D seen d hs c d' hd hc;rcases Nat.lt_or_ge c D.length with hlt|hge
  .rw[List.getElem?_append_left hlt] at hd;have:=hs c d' hd hc;cases d.ao2;exact this;exact kS _ this
  .rw[List.getElem?_append_right hge] at hd;have hz:c-D.length=0:=by
    rcases Nat.eq_zero_or_pos (c-D.length) with h|h
    .exact h
    .rw[List.getElem?_eq_none (by simp;omega)] at hd;cases hd
   rw[hz] at hd;obtain rfl:d=d':=by simpa using hd
   rw[hc];have:c=D.length:=by omega
   rw[this];exact gN
 induction h with
 | @done k j b h=>
  rintro D seen rfl rfl hs hc hb hr hle;refine⟨[],rfl,?_,λj o d hj=>by simp at hj,λvs w hS=>?_⟩
  .have h1:ops.toList.length<=D.length:=List.drop_eq_nil_iff.1 hr;rw[Array.length_toList] at h1;rw[List.append_nil];omega
  .rw[List.append_nil] at hS|-;rw[<- hb];exact hQ _ _ (h vs w hS)
 | @read o rest k j b out v gs eb h hr ih=>
  rintro D seen rfl rfl hs hc hb oG hle;simp only[Fk,ij,cond_false] at hc;refine go o rest D (.rd v eb) b _ out rfl oG hb (λi vs w hbd hS=>?_) ?_
  .rw[<- hb];refine Bc hc.1.1 ?_;obtain⟨x,hx,hw⟩:=h i vs w hbd hS;exact⟨x,hx,λK hK=>hw K (λw' hw'=>hK v w' ⟨rfl,hw'⟩)⟩
  .rintro D' rfl hb' hle' hr';exact ih (D++[ei.rd v eb]) seen (by simp) (by simp[mD,ei.ao2]) (more D seen (.rd v eb) hs) hc.2 hb' hr' hle'
 | @bL o rest k j b out v gs h hr ih=>
  rintro D seen rfl rfl hs hc hb oG hle;simp only[Fk,ij,cond_true] at hc;refine go o rest D (.bL v) b _ out rfl oG hb ⟨chain D seen _ hs hc.1.2,λvs w hS=>?_⟩ ?_
  .rw[<- hb];refine Bc hc.1.1 ?_;obtain⟨x,hx,hw⟩:=h vs w hS;exact⟨x,hx,λK hK=>hw K (λw' hw'=>hK v w' ⟨rfl,hw'⟩)⟩
  .rintro D' rfl hb' hle' hr';exact ih (D++[ei.bL v]) (D.length::seen) (by simp) (by simp[mD,ei.ao2]) (more D seen (.bL v) hs) hc.2 hb' hr' hle'
 | @op o rest k j b out gs h hr ih=>
  rintro D seen rfl rfl hs hc hb oG hle;simp only[Fk,ij,cond_true] at hc;refine go o rest D .op b _ out rfl oG hb ⟨chain D seen _ hs hc.1.2,λvs w hS=>?_⟩ ?_
  .rw[<- hb];refine Bc hc.1.1 ?_;obtain⟨x,hx,hw⟩:=h vs w hS;exact⟨x,hx,λK hK=>hw K (λv w' hw'=>hK v w' hw')⟩
  .rintro D' rfl hb' hle' hr';exact ih (D++[ei.op]) (D.length::seen) (by simp) (by simp[mD,ei.ao2]) (more D seen .op hs) hc.2 hb' hr' hle'
structure Be(ops:Array Oper)(aP:Nat->bY->World->Prop)(a0:Act)(D:List ei)(listed:Array Bool)(a:Act)(w:World)(vs:bY):Prop where
 size:listed.size=ops.size
 down:∀i p,listed.getD i false=true->Pre ops p i->listed.getD p false=true
 defers:a.defers=a0.defers
 mW:a.tmps.size=a0.tmps.size
 slot:∀i t d,listed.getD i false=true->eW ops i=some t->t<a0.tmps.size->D[i]?=some d->a.tmps[t]?=some (d.dl.val i vs)
 other:∀t,(∀i,listed.getD i false=true->eW ops i≠some t)->a.tmps[t]?=a0.tmps[t]?
 st:aP (sg D listed 0) vs w
theorem Be.step{D:List ei}(hg:qU ops=true)(hD:D.length=ops.size)(hA:∀j o d,D[j]?=some d->ops[j]?=some o->IR P ops aP a0 (D.take j) j o d)(hE:∀k v e c,D[k]?=some (.rd v (some (e,c)))->Pre ops k e/\(∃d,D[e]?=some d/\d.ao2=true)/\mD (D.take e)<=c){listed:Array Bool}{a:Act}{w:World}{vs:bY}(hI:Be ops aP a0 D listed a w vs){i:Nat}(hi:i∈Region.ready .any ops listed):
 wpOp P ops Q i (λa' w'=>∃vs',Be ops aP a0 D (listed.setIfInBounds i true) a' w' vs') a w:=by
 simp only[qU,ij] at hg;obtain⟨⟨⟨hsel,xM⟩,hdist⟩,yK⟩:=hg;obtain⟨hun,o,ho,wl⟩:=mem_ready.1 hi;have hilt:i<ops.size:=aB ho;have Bd:i<listed.size:=by rw[hI.size];exact hilt
 have lY:listed.getD i false=false:=by
  simp only[Array.getD_eq_getD_getElem?,mV Bd] at hun|-;exact hun
 have hpre:∀p,Pre ops p i->listed.getD p false=true:=by
  intro p hp;cases hp with
  |edge ho' he hb=>rw[ho] at ho';injection ho' with ho';subst ho';exact wl _ he hb
  |more ho' he hb hp=>rw[ho] at ho';injection ho' with ho';subst ho';exact hI.down _ _ (wl _ he hb) hp
 obtain⟨d,hd⟩:∃d,D[i]?=some d:=⟨_,dh (by rw[hD];exact hilt)⟩
 have oH:=hA i o d hd ho;have rI:eW ops i=o.dst:=by rw[eW,ho];rfl
 have IN:∀(L:List ei)(j:Nat)(dj:ei),L[j]?=some dj->(L.map ei.dl)[j]?=some dj.dl:=λL j dj h=>by rw[List.getElem?_map,h];rfl
 have wm:∀t,t∈o.looksAt ops->a.tmps[t]?=(cV ops vs ((D.take i).map ei.dl) 0 a0).tmps[t]?:=by
  intro t ht;by_cases hex:∃j,eW ops j=some t
  .obtain⟨j,hj⟩:=hex;have wn:∀j',eW ops j'=some t->j'=j:=λj' h=>rH hdist _ _ _ h hj
   have later:listed.getD j false=false->i<=j->a.tmps[t]?=(cV ops vs ((D.take i).map ei.dl) 0 a0).tmps[t]?:=λhl hij=>by
    rw[hI.other t (λj' h1 h2=>by rw[wn j' h2,hl] at h1;cases h1),tU ops vs t _ _ _ (λj' _ h2 h3=>by
     have:=wn j' h3;rw[iZ,kT] at h2;omega)]
   rcases Ll xM ho ht hj with rfl|⟨hlt,hp⟩|⟨hlt,hp⟩
   .exact later lY (aZ _)
   .obtain⟨dj,hdj⟩:∃d,D[j]?=some d:=⟨_,dh (by rw[hD];omega)⟩
    by_cases hts:t<a0.tmps.size
    .rw[hI.slot j t dj (hpre _ hp) hj hts hdj];rw[Ag ops vs (λi j t=>rH hdist i j t) t j hj dj.dl ((D.take i).map ei.dl) 0 a0 (Nat.zero_le _) (by rw[Nat.sub_zero];exact IN _ _ _ (by rw[List.getElem?_take,if_pos hlt,hdj])) hts]
    .have od:a0.tmps.size<=t:=Nat.le_of_not_lt hts;rw[pv (by rw[hI.mW];exact od),pv (by rw[uQ];exact od)]
   .refine later ?_ (by omega);cases hl:listed.getD j false;rfl
    .have:=hI.down _ _ hl hp;rw[lY] at this;cases this
  .rw[hI.other t (λj h1 h2=>hex ⟨j,h2⟩),tU ops vs t _ _ _ (λj _ _ h3=>hex ⟨j,h3⟩)]
 have hsize:a.tmps.size=(cV ops vs ((D.take i).map ei.dl) 0 a0).tmps.size:=by rw[uQ,hI.mW]
 have Ah:execOp a.eval o=execOp (cV ops vs ((D.take i).map ei.dl) 0 a0).eval o:=Ln (λcs b=>Region.noSelect_spec hsel i o cs b ho) wm;have xN:=apw wm;have yW:(listed.setIfInBounds i true).getD i false=true:=by simp[Bd]
 have hne:∀c,c≠i->(listed.setIfInBounds i true).getD c false=listed.getD c false:=λc hc=>getD_set_ne false (Ne.symm hc)
 have tV:∀vs' v w',(∀j,j≠i->vs' j=vs j)->d.dl.val i vs'=v->aP (sg D (listed.setIfInBounds i true) 0) vs' w'->∃vs',Be ops aP a0 D (listed.setIfInBounds i true) (a.put o.dst v) w' vs':=by
  intro vs' v w' hvs hval hst;refine⟨vs',⟨by simpa using hI.size,?_,by rw[put_defers];exact hI.defers,by rw[Er];exact hI.mW,?_,?_,hst⟩⟩
  .intro j p hj hp;rcases uR hj with rfl|hj
   .exact getD_set_true (hpre p hp)
   .exact getD_set_true (hI.down _ _ hj hp)
  .intro j t dj hj hjt hts hdj;by_cases hji:j=i
   .subst hji;rw[hd] at hdj;injection hdj with hdj;subst hdj;rw[<- rI,hjt,Ch _ _ _ (by rw[hI.mW];exact hts),hval]
   .rcases uR hj with rfl|hj
    .exact absurd rfl hji
    .rw[yH _ _ _ _ (λe=>hji (rH hdist j i t hjt (by rw[rI,e]))),hI.slot j t dj hj hjt hts hdj];cases dj with
     |rd v eb=>rfl
     |bL v=>rfl
     |op=>show some (vs j)=some (vs' j);rw[hvs j hji]
  .intro t ht;have yL:o.dst≠some t:=by
    rw[<- rI];exact ht i yW
   rw[yH _ _ _ _ yL,hI.other t (λj hj=>ht j (getD_set_true hj))]
 have yf:∀{R:Value->World->Prop},qR P ops o (cV ops vs ((D.take i).map ei.dl) 0 a0) w R->(∀v w',R v w'->∃vs',Be ops aP a0 D (listed.setIfInBounds i true) (a.put o.dst v) w' vs')->wpOp P ops Q i (λa' w'=>∃vs',Be ops aP a0 D (listed.setIfInBounds i true) a' w' vs') a w:=by
  intro R hrun fin;have hr:=hrun (λa' w'=>∃v',a'=(cV ops vs ((D.take i).map ei.dl) 0 a0).put o.dst v'/\R v' w') (λv w' h=>⟨v,rfl,h⟩);unfold wpOp;simp only[ho];rw[xN];split
  .rename_i hw;rw[if_pos hw] at hr;refine .inl (GQ (Oper.wp_mono (λa' w' h=>?_) (wp_move hsize Ah hr)));obtain⟨v,rfl,h⟩:=h;exact fin v w' h
  .rename_i hw;rw[if_neg hw] at hr;obtain⟨v,hv,h⟩:=hr;rw[yJ hsize hv];exact fin v w h
 have IP:d.ao2=true->(∀c bX,(D.take i)[c]?=some bX->bX.ao2=true->Pre ops c i)->sg D listed 0=mD (D.take i)/\sg D (listed.setIfInBounds i true) 0=mD (D.take i)+1:=by
  intro hch hchain;have key:∀c bX,D[c]?=some bX->bX.ao2=true->c≠i->(listed.getD c false=true↔c<i):=by
   intro c bX hdc fK jS;constructor
   .intro hl;rcases Nat.lt_or_gt_of_ne jS with h|h
    .exact h
    .exfalso
     have cn:c<ops.size:=by have:=(gM hdc);omega
     have hac:=hA c _ bX hdc (mV cn);have hpc:Pre ops i c:=by
      cases bX with
      |rd v eb=>cases fK
      |bL v=>exact hac.1 i d (by rw[List.getElem?_take,if_pos h,hd]) hch
      |op=>exact hac.1 i d (by rw[List.getElem?_take,if_pos h,hd]) hch
     have:=hI.down _ _ hl hpc;rw[lY] at this;cases this
   .intro h;exact hpre c (hchain c bX (by rw[List.getElem?_take,if_pos h,hdc]) fK)
  constructor
  .have:=IQ D listed 0 i (λc bX hdc fK=>by
    rw[dV];by_cases jS:c=i
    .subst jS;rw[lY];simp
    .exact key c bX hdc fK jS)
   rwa[Nat.sub_zero] at this
  .have:=IQ D (listed.setIfInBounds i true) 0 (i+1) (λc bX hdc fK=>by
    rw[dV];by_cases jS:c=i
    .subst jS;rw[yW];simp
    .rw[hne c jS,key c bX hdc fK jS];omega)
   rw[Nat.sub_zero,List.take_add_one,hd] at this;rw[this];simp[mD,hch]
 have hst:=hI.st;cases d with
 |rd v eb=>
  have hbd:∀e c,eb=some (e,c)->sg D listed 0<=c:=λe c sQ=>by
   subst sQ;obtain⟨hpe,⟨Ym,hde,hdc⟩,hle⟩:=hE i v e c hd;have hel:listed.getD e false=false:=by
    cases hl:listed.getD e false with
    |false=>rfl
    |true=>have:=hI.down _ _ hl hpe;rw[lY] at this;cases this
   refine bQ ?_ hle;have h9:=Yl D listed 0 e (λc' bX Yn fK hl=>by
    rw[dV] at hl|-;rcases Nat.lt_trichotomy c' e with h|h|h
    .exact h
    .subst h;rw[hel] at hl;cases hl
    .exfalso
     have cn:c'<ops.size:=by have:=(gM Yn);omega
     have hac:=hA c' _ bX Yn (mV cn);have hpc:Pre ops e c':=by
      cases bX with
      |rd v eb=>cases fK
      |bL v=>exact hac.1 e Ym (by rw[List.getElem?_take,if_pos h,hde]) hdc
      |op=>exact hac.1 e Ym (by rw[List.getElem?_take,if_pos h,hde]) hdc
     have:=hI.down _ _ hl hpc;rw[hel] at this;cases this)
   rwa[Nat.sub_zero] at h9
  refine yf (oH _ vs w hbd hst) λv' w' ⟨h1,h2⟩=>?_
  subst h1;refine tV vs v' w' (λ_ _=>rfl) rfl ?_;rw[Yk D listed _ 0 (λc bX hdc fK=>by
   rw[dV];exact hne c (λe=>by subst e;rw[hd] at hdc;injection hdc with hdc;subst hdc;cases fK))]
  exact h2
 |bL v=>
  obtain⟨h3,h4⟩:=IP rfl oH.1;rw[h3] at hst;refine yf (oH.2 vs w hst) λv' w' ⟨h1,h2⟩=>?_
  subst h1;exact tV vs v' w' (λ_ _=>rfl) rfl (by rw[h4];exact h2)
 |op=>
  obtain⟨h3,h4⟩:=IP rfl oH.1;rw[h3] at hst;refine yf (oH.2 vs w hst) λv' w' h2=>?_
  exact tV (fU vs i v') v' w' (λj hj=>jQ vs v' hj) (eV vs i v') (by rw[h4];exact h2)
theorem iE{id:Nat}{w:World}{l:List Oper}{out:List ou}(aP:Nat->bY->World->Prop)(hm:P.follows .mixedOrders=true)(hg:qU l.toArray=true)(h0:∀vs,aP 0 vs w.drew)(h:∀aF:Act->World->Prop,Shut (∀a w',Q .normal a w'->aF a w')->az P aF aP l 0 0 (λ_=>a0) out)(hc:(Fk l.toArray [] out&&ab3 l.toArray out)=true):(Code.region id l.toArray true).wp P Q a0 w:=by
 rw[ij] at hc;obtain⟨hc,he⟩:=hc;obtain⟨D,hT,hD,hA,aS⟩:=az.data (Q:=Q) (ops:=l.toArray) (a0:=a0) (λa w h=>h) (h (λa w'=>Q .normal a w') (λa w' h=>h)) [] [] rfl rfl (λc d h=>by simp at h) hc (λ_=>rfl) rfl (Nat.zero_le _);rw[gY] at hD;simp only[gY,dV] at hA aS;have ab4:∀(k:Nat)(d:ei),D[k]?=some d->∃x:ou,out[k]?=some x/\d.tell=x.tell:=λk d hd=>by
  have h1:(D.map ei.tell)[k]?=some d.tell:=by rw[List.getElem?_map,hd];rfl
  rw[hT,List.getElem?_map] at h1;cases hx:out[k]? with
  |none=>rw[hx] at h1;cases h1
  |some x=>rw[hx] at h1;injection h1 with h1;exact⟨x,rfl,h1.symm⟩
 have ab5:∀(k:Nat)(x:ou),out[k]?=some x->∃d:ei,D[k]?=some d/\d.tell=x.tell:=λk x hx=>by
  have h1:(out.map ou.tell)[k]?=some x.tell:=by rw[List.getElem?_map,hx];rfl
  rw[<- hT,List.getElem?_map] at h1;cases hd:D[k]? with
  |none=>rw[hd] at h1;cases h1
  |some d=>rw[hd] at h1;injection h1 with h1;exact⟨d,rfl,h1⟩
 have hE:∀(k:Nat)(v:Value)(e c:Nat),D[k]?=some (.rd v (some (e,c)))->Pre l.toArray k e/\(∃d,D[e]?=some d/\d.ao2=true)/\mD (D.take e)<=c:=λk v e c hk=>by
  obtain⟨x,hx,Qc⟩:=ab4 k _ hk;have rf:x.eb=some (e,c):=(congrArg Prod.snd Qc).symm;have h1:=List.all_eq_true.1 he k (List.mem_range.2 (gM hx));simp only[hx,rf,ij,lw] at h1;obtain⟨⟨h2,h3⟩,h4⟩:=h1;refine⟨v8 h2,?_,?_⟩
  .cases hy:out[e]? with
   |none=>rw[hy] at h3;cases h3
   |some y=>
    rw[hy] at h3;obtain⟨d,hd,hdt⟩:=ab5 e y hy;exact⟨d,hd,(congrArg Prod.fst hdt).trans h3⟩
  .refine bQ (Nat.le_of_eq ?_) h4;have h5:(D.take e).map ei.tell=(out.take e).map ou.tell:=by rw[List.map_take,List.map_take,hT]
   have h6:=congrArg (List.countP Prod.fst) h5;rw[List.countP_map,List.countP_map] at h6;exact h6
 refine wp_region_any hm ?_;refine Lq (I:=λlisted a w1=>∃vs,Be l.toArray aP a0 D listed a w1 vs) ?_ ?_ ?_ _ _ _ _ ?_ ?_
 .rintro listed a w1⟨vs,hI⟩ hr;have hg':=hg;simp only[qU,ij] at hg';obtain⟨⟨⟨hsel,xM⟩,hdist⟩,yK⟩:=hg';have hall:=Pl yK hI.size hr;have ha:a=cV l.toArray vs (D.map ei.dl) 0 a0:=by
   have h1:a.tmps=(cV l.toArray vs (D.map ei.dl) 0 a0).tmps:=by
    apply Array.ext_getElem?;intro t;by_cases hex:∃j,eW l.toArray j=some t
    .obtain⟨j,hj⟩:=hex;obtain⟨dj,hdj⟩:∃d,D[j]?=some d:=⟨_,dh (by rw[hD];exact yI hj)⟩
     by_cases hts:t<a0.tmps.size
     .rw[hI.slot j t dj (hall j (yI hj)) hj hts hdj,Ag l.toArray vs (λi j t=>rH hdist i j t) t j hj dj.dl (D.map ei.dl) 0 a0 (Nat.zero_le _) (by rw[Nat.sub_zero,List.getElem?_map,hdj];rfl) hts]
     .have od:a0.tmps.size<=t:=Nat.le_of_not_lt hts;rw[pv (by rw[hI.mW];exact od),pv (by rw[uQ];exact od)]
    .rw[hI.other t (λj _ h2=>hex ⟨j,h2⟩),tU l.toArray vs t _ _ _ (λj _ _ h3=>hex ⟨j,h3⟩)]
   have h2:a.defers=(cV l.toArray vs (D.map ei.dl) 0 a0).defers:=by rw[Lk,hI.defers]
   cases a;generalize cV l.toArray vs (D.map ei.dl) 0 a0=b at *;cases b;simp only at h1 h2;rw[h1,h2]
  rw[ha];refine aS vs w1 ?_;have hs:=hI.st;have kP:=IQ D listed 0 D.length (λc d hd hc=>by
   have hlt:=(gM hd);rw[dV];exact⟨λ_=>hlt,λ_=>hall c (by omega)⟩)
  rw[Nat.sub_zero,List.take_length] at kP
  rwa[kP] at hs
 .rintro listed a w1 i⟨vs,hI⟩ hi;exact Be.step hg hD (λj o d hd ho=>hA j o d hd ho) hE hI hi
 .rintro listed a w1⟨vs,hI⟩;exact hI.size
 .exact bQ List.countP_le_length (by simp)
 .have hz:∀i,(Array.replicate l.toArray.size false).getD i false=false:=λi=>by
   simp only[Array.getD_eq_getD_getElem?,Array.getElem?_replicate];split <;>rfl
  have hno:∀i,¬(Array.replicate l.toArray.size false).getD i false=true:=λi h=>by rw[hz] at h;cases h
  refine⟨λ_=>undef,⟨by simp,λi p h=>absurd h (hno i),rfl,rfl,λi t d h=>absurd h (hno i),λt _=>rfl,?_⟩⟩;have kP:=IQ D (Array.replicate l.toArray.size false) 0 0 (λc d hd hc=>by
   rw[hz];simp)
  rw[Nat.sub_zero,List.take_zero] at kP;rw[kP];exact h0 _
end
section
variable{P:Program}{aF:Act->World->Prop}{aP:Nat->bY->World->Prop}{o:Oper}{rest:List Oper}{k j:Nat}{b:bY->Act}{out:List ou}
theorem az.fin(h:∀vs w,aP j vs w->aF (b vs) w):az P aF aP [] k j b []:= .done h
theorem az.ok{v:Value}(h:∀i vs w,aP i vs w->(execOp (b vs).eval o).run P w= .ok (.value v) w)(hg:o.guard=none)(hr:az P aF aP rest (k+1) j (λvs=>(b vs).put o.dst v) out):az P aF aP (o::rest) k j b (⟨k,false,none,none⟩::out):=
 .read v none none (λi vs w _ hS=>⟨true,.inl (by simp only[Want,hg]),λK hK=>by
  rw[if_pos rfl,Oper.wp,h i vs w hS];exact hK.out w hS⟩) hr
theorem az.eI{g t:Nat}{x:Bool}{v:Value}(h:∀i vs w,aP i vs w->(execOp (b vs).eval o).run P w= .ok (.value v) w)(hg:o.guard=some (g,x))(ht:∀vs,(b vs).tmps[t]?=some (.bool x))(hr:az P aF aP rest (k+1) j (λvs=>(b vs).put o.dst v) out):az P aF aP (o::rest) k j b (⟨k,false,some (g,t),none⟩::out):=
 .read v (some (g,t)) none (λi vs w _ hS=>⟨true,.inl (by simp only[Want,hg];exact⟨trivial,x,ht vs,by cases x <;>rfl⟩),λK hK=>by
  rw[if_pos rfl,Oper.wp,h i vs w hS];exact hK.out w hS⟩) hr
theorem az.sL{g t:Nat}{x y:Bool}(hg:o.guard=some (g,x))(ht:∀vs,(b vs).tmps[t]?=some (.bool y))(hxy:(y==x)=false)(hr:az P aF aP rest (k+1) j (λvs=>(b vs).put o.dst undef) out):az P aF aP (o::rest) k j b (⟨k,false,some (g,t),none⟩::out):=
 .read undef (some (g,t)) none (λi vs w _ hS=>⟨false,.inl (by simp only[Want,hg];exact⟨trivial,y,ht vs,hxy.symm⟩),λK hK=>by
  rw[if_neg (by simp)];exact hK.out w hS⟩) hr
theorem az.Px{g t:Nat}{x:Bool}(hg:o.guard=some (g,x))(ht:∀vs,(b vs).tmps[t]?=some undef)(hr:az P aF aP rest (k+1) j (λvs=>(b vs).put o.dst undef) out):az P aF aP (o::rest) k j b (⟨k,false,some (g,t),none⟩::out):=
 .read undef (some (g,t)) none (λi vs w _ hS=>⟨false,.inr ⟨rfl,by simp only[rJ,hg];exact⟨trivial,ht vs⟩⟩,λK hK=>by
  rw[if_neg (by simp)];exact hK.out w hS⟩) hr
theorem az.early{v:Value}(e c:Nat)(h:∀i vs w,i<=c->aP i vs w->(execOp (b vs).eval o).run P w= .ok (.value v) w)(hg:o.guard=none)(hr:az P aF aP rest (k+1) j (λvs=>(b vs).put o.dst v) out):az P aF aP (o::rest) k j b (⟨k,false,none,some (e,c)⟩::out):=
 .read v none (some (e,c)) (λi vs w hbd hS=>⟨true,.inl (by simp only[Want,hg]),λK hK=>by
  rw[if_pos rfl,Oper.wp,h i vs w (hbd e c rfl) hS];exact hK.out w hS⟩) hr
theorem az.call(v:Value)(hg:o.guard=none)(h:∀vs w,aP j vs w->∀K:Act->World->Prop,Shut (∀w',aP (j+1) vs w'->K ((b vs).put o.dst v) w')->o.wp P (b vs) w K (λ_ _ _=>False))(hr:az P aF aP rest (k+1) (j+1) (λvs=>(b vs).put o.dst v) out):az P aF aP (o::rest) k j b (⟨k,true,none,none⟩::out):=
 .bL v none (λvs w hS=>⟨true,.inl (by simp only[Want,hg]),λK hK=>by
  rw[if_pos rfl];exact h vs w hS K hK⟩) hr
theorem az.p7{g t:Nat}{x:Bool}(v:Value)(hg:o.guard=some (g,x))(ht:∀vs,(b vs).tmps[t]?=some (.bool x))(h:∀vs w,aP j vs w->∀K:Act->World->Prop,Shut (∀w',aP (j+1) vs w'->K ((b vs).put o.dst v) w')->o.wp P (b vs) w K (λ_ _ _=>False))(hr:az P aF aP rest (k+1) (j+1) (λvs=>(b vs).put o.dst v) out):az P aF aP (o::rest) k j b (⟨k,true,some (g,t),none⟩::out):=
 .bL v (some (g,t)) (λvs w hS=>⟨true,.inl (by simp only[Want,hg];exact⟨trivial,x,ht vs,by cases x <;>rfl⟩),λK hK=>by
  rw[if_pos rfl];exact h vs w hS K hK⟩) hr
theorem az.cG(hg:o.guard=none)(h:∀vs w,aP j vs w->∀K:Act->World->Prop,Shut (∀v w',aP (j+1) (fU vs k v) w'->K ((b vs).put o.dst v) w')->o.wp P (b vs) w K (λ_ _ _=>False))(hr:az P aF aP rest (k+1) (j+1) (λvs=>(b vs).put o.dst (vs k)) out):az P aF aP (o::rest) k j b (⟨k,true,none,none⟩::out):=
 .op none (λvs w hS=>⟨true,.inl (by simp only[Want,hg]),λK hK=>by
  rw[if_pos rfl];exact h vs w hS K hK⟩) hr
end
end V
namespace V
open Go Go.CheckFast Go.RowKit
def dE(L:Nat->Bool)(k:Nat):Nat->Bool:=λi=>bif Nat.beq i k then true else L i
theorem FV(L:Nat->Bool)(k:Nat):dE L k k=true:=by simp[dE]
theorem kR(L:Nat->Bool){k i:Nat}(h:i≠k):dE L k i=L i:=by
 unfold dE;cases h':Nat.beq i k;rfl;exact absurd (Nat.eq_of_beq_eq_true h') h
structure BB where
 idx:Nat
 ps:List Nat
 gs:Option (Nat×Tmp)
def FX(ops:Array Oper)(l:List BB):Bool:=l.all λx=>yN ops x.gs&&x.ps.all (sJ ops x.idx)
section
variable(P:Program)(aF:Act->World->Prop)(aP:(Nat->Bool)->bY->World->Prop)
inductive cE:List Oper->Nat->(bY->Act)->List BB->Prop
 |done {k:Nat} {b:bY->Act} (h:∀L vs w,(∀i,i<k->L i=true)->aP L vs w->aF (b vs) w):cE [] k b []
 |bL {o:Oper} {rest:List Oper} {k:Nat} {b:bY->Act} {out:List BB} (v:Value) (gs:Option (Nat×Tmp)) (ps:List Nat)
  (h:∀L vs w,L k=false->(∀p∈ps,L p=true)->aP L vs w->∃x,(Want o gs (b vs) x\/(x=false/\rJ o gs (b vs)))/\∀K:Act->World->Prop,Shut (∀w',aP (dE L k) vs w'->K ((b vs).put o.dst v) w')->
   if x=true then o.wp P (b vs) w K (λ_ _ _=>False) else K ((b vs).put o.dst undef) w)
  (hr:cE rest (k+1) (λvs=>(b vs).put o.dst v) out):cE (o::rest) k b (⟨k,ps,gs⟩::out)
 |op {o:Oper} {rest:List Oper} {k:Nat} {b:bY->Act} {out:List BB} (gs:Option (Nat×Tmp)) (ps:List Nat)
  (h:∀L vs w,L k=false->(∀p∈ps,L p=true)->aP L vs w->∃x,(Want o gs (b vs) x\/(x=false/\rJ o gs (b vs)))/\∀K:Act->World->Prop,Shut (∀v w',aP (dE L k) (fU vs k v) w'->K ((b vs).put o.dst v) w')->
   if x=true then o.wp P (b vs) w K (λ_ _ _=>False) else K ((b vs).put o.dst undef) w)
  (hr:cE rest (k+1) (λvs=>(b vs).put o.dst (vs k)) out):cE (o::rest) k b (⟨k,ps,gs⟩::out)
end
inductive iN where
 |bL (v:Value) (ps:List Nat)
 |op (ps:List Nat)
def iN.dl:iN->eF
 |.bL v _=> .bL v []
 |.op _=> .cG (λ_ _=>True) (λ_ _=>False) [] []
def Jv(P:Program)(ops:Array Oper)(aP:(Nat->Bool)->bY->World->Prop)(a0:Act)(D:List iN)(k:Nat)(o:Oper):iN->Prop
 |.bL v ps=>(∀p∈ps,Pre ops p k)/\∀L vs w,L k=false->(∀p∈ps,L p=true)->aP L vs w->qR P ops o (cV ops vs (D.map iN.dl) 0 a0) w λv' w'=>v'=v/\aP (dE L k) vs w'
 |.op ps=>(∀p∈ps,Pre ops p k)/\∀L vs w,L k=false->(∀p∈ps,L p=true)->aP L vs w->qR P ops o (cV ops vs (D.map iN.dl) 0 a0) w λv w'=>aP (dE L k) (fU vs k v) w'
section
variable{P:Program}{ops:Array Oper}{Q:Exit->Act->World->Prop}{aF:Act->World->Prop}{aP:(Nat->Bool)->bY->World->Prop}{a0:Act}
theorem cE.data(hQ:∀a w,aF a w->Q .normal a w){rest:List Oper}{k:Nat}{b:bY->Act}{out:List BB}(h:cE P aF aP rest k b out):
 ∀(D:List iN),D.length=k->FX ops out=true->(∀vs,b vs=cV ops vs (D.map iN.dl) 0 a0)->ops.toList.drop k=rest->k<=ops.size->
 ∃E:List iN,(D++E).length=ops.size/\(∀j o d,E[j]?=some d->ops[k+j]?=some o->Jv P ops aP a0 (D++E.take j) (k+j) o d)/\
  ∀L vs w,(∀i,i<ops.size->L i=true)->aP L vs w->Q .normal (cV ops vs ((D++E).map iN.dl) 0 a0) w:=by
 have go:∀(o:Oper)(rest:List Oper)(D:List iN)(d:iN)(b:bY->Act),ops.toList.drop D.length=o::rest->(∀vs,b vs=cV ops vs (D.map iN.dl) 0 a0)->Jv P ops aP a0 D D.length o d->
  (∀D',D'=D++[d]->(∀vs,(b vs).put o.dst (d.dl.val D.length vs)=cV ops vs (D'.map iN.dl) 0 a0)->D.length+1<=ops.size->ops.toList.drop (D.length+1)=rest->∃E:List iN,(D'++E).length=ops.size/\(∀j o d,E[j]?=some d->ops[D.length+1+j]?=some o->Jv P ops aP a0 (D'++E.take j) (D.length+1+j) o d)/\
   ∀L vs w,(∀i,i<ops.size->L i=true)->aP L vs w->Q .normal (cV ops vs ((D'++E).map iN.dl) 0 a0) w)->
  ∃E:List iN,(D++E).length=ops.size/\(∀j o d,E[j]?=some d->ops[D.length+j]?=some o->Jv P ops aP a0 (D++E.take j) (D.length+j) o d)/\
   ∀L vs w,(∀i,i<ops.size->L i=true)->aP L vs w->Q .normal (cV ops vs ((D++E).map iN.dl) 0 a0) w:=by
  intro o rest D d b hr hb hA ih;have ho:ops.toList[D.length]?=some o:=by
   have:=congrArg List.head? hr
   rwa[List.head?_drop,List.head?_cons] at this
  have ho':ops[D.length]?=some o:=by simpa using ho
  obtain⟨E,h1,h2,h3⟩:=ih _ rfl (λvs=>by
   rw[kU,apq,<- hb,dV,iZ];show _=(b vs).put (eW ops D.length) _;rw[eW,ho'];rfl) (aB ho') (by rw[<- List.drop_drop,hr];rfl)
  refine⟨d::E,by simpa using h1,λj o' d' hj kr=>?_,?_⟩
  .cases j with
   |zero=>
    obtain rfl:d=d':=by simpa using hj
    rw[Nat.add_zero] at kr|-;rw[ho'] at kr;injection kr with kr;subst kr;rw[List.take_zero,List.append_nil];exact hA
   |succ j=>
    have:=h2 j o' d' (by simpa using hj) (by rw[<- kr];congr 1;omega);rw[List.take_succ_cons];rw[show D.length+(j+1)=D.length+1+j by omega]
    rwa[jg] at this
  .intro L vs w hL hS;have e:D++d::E=D++[d]++E:=by rw[jg];rfl
   rw[e];exact h3 L vs w hL hS
 induction h with
 | @done k b h=>
  rintro D rfl hc hb hr hle;have h1:ops.toList.length<=D.length:=List.drop_eq_nil_iff.1 hr;rw[Array.length_toList] at h1;refine⟨[],?_,λj o d hj=>by simp at hj,λL vs w hL hS=>?_⟩
  .rw[List.append_nil];omega
  .rw[List.append_nil,<- hb];exact hQ _ _ (h L vs w (λi hi=>hL i (by omega)) hS)
 | @bL o rest k b out v gs ps h hr ih=>
  rintro D rfl hc hb oG hle;simp only[FX,List.all_cons,ij] at hc;refine go o rest D (.bL v ps) b oG hb ⟨λp hp=>v8 (List.all_eq_true.1 hc.1.2 p hp),λL vs w hk hps hS=>?_⟩ ?_
  .rw[<- hb];refine Bc hc.1.1 ?_;obtain⟨x,hx,hw⟩:=h L vs w hk hps hS;exact⟨x,hx,λK hK=>hw K (λw' hw'=>hK v w' ⟨rfl,hw'⟩)⟩
  .rintro D' rfl hb' hle' hr';exact ih (D++[iN.bL v ps]) (by simp) (by unfold FX;exact hc.2) hb' hr' hle'
 | @op o rest k b out gs ps h hr ih=>
  rintro D rfl hc hb oG hle;simp only[FX,List.all_cons,ij] at hc;refine go o rest D (.op ps) b oG hb ⟨λp hp=>v8 (List.all_eq_true.1 hc.1.2 p hp),λL vs w hk hps hS=>?_⟩ ?_
  .rw[<- hb];refine Bc hc.1.1 ?_;obtain⟨x,hx,hw⟩:=h L vs w hk hps hS;exact⟨x,hx,λK hK=>hw K (λv w' hw'=>hK v w' hw')⟩
  .rintro D' rfl hb' hle' hr';exact ih (D++[iN.op ps]) (by simp) (by unfold FX;exact hc.2) hb' hr' hle'
structure apj(ops:Array Oper)(aP:(Nat->Bool)->bY->World->Prop)(a0:Act)(D:List iN)(listed:Array Bool)(a:Act)(w:World)(vs:bY):Prop where
 size:listed.size=ops.size
 down:∀i p,listed.getD i false=true->Pre ops p i->listed.getD p false=true
 defers:a.defers=a0.defers
 mW:a.tmps.size=a0.tmps.size
 slot:∀i t d,listed.getD i false=true->eW ops i=some t->t<a0.tmps.size->D[i]?=some d->a.tmps[t]?=some (d.dl.val i vs)
 other:∀t,(∀i,listed.getD i false=true->eW ops i≠some t)->a.tmps[t]?=a0.tmps[t]?
 st:aP (λi=>listed.getD i false) vs w
theorem apj.step{D:List iN}(hg:qU ops=true)(hD:D.length=ops.size)(hA:∀j o d,D[j]?=some d->ops[j]?=some o->Jv P ops aP a0 (D.take j) j o d){listed:Array Bool}{a:Act}{w:World}{vs:bY}(hI:apj ops aP a0 D listed a w vs){i:Nat}(hi:i∈Region.ready .any ops listed):
 wpOp P ops Q i (λa' w'=>∃vs',apj ops aP a0 D (listed.setIfInBounds i true) a' w' vs') a w:=by
 simp only[qU,ij] at hg;obtain⟨⟨⟨hsel,xM⟩,hdist⟩,yK⟩:=hg;obtain⟨hun,o,ho,wl⟩:=mem_ready.1 hi;have hilt:i<ops.size:=aB ho;have Bd:i<listed.size:=by rw[hI.size];exact hilt
 have lY:listed.getD i false=false:=by
  simp only[Array.getD_eq_getD_getElem?,mV Bd] at hun|-;exact hun
 have hpre:∀p,Pre ops p i->listed.getD p false=true:=by
  intro p hp;cases hp with
  |edge ho' he hb=>rw[ho] at ho';injection ho' with ho';subst ho';exact wl _ he hb
  |more ho' he hb hp=>rw[ho] at ho';injection ho' with ho';subst ho';exact hI.down _ _ (wl _ he hb) hp
 obtain⟨d,hd⟩:∃d,D[i]?=some d:=⟨_,dh (by rw[hD];exact hilt)⟩
 have oH:=hA i o d hd ho;have rI:eW ops i=o.dst:=by rw[eW,ho];rfl
 have IN:∀(L:List iN)(j:Nat)(dj:iN),L[j]?=some dj->(L.map iN.dl)[j]?=some dj.dl:=λL j dj h=>by rw[List.getElem?_map,h];rfl
 have wm:∀t,t∈o.looksAt ops->a.tmps[t]?=(cV ops vs ((D.take i).map iN.dl) 0 a0).tmps[t]?:=by
  intro t ht;by_cases hex:∃j,eW ops j=some t
  .obtain⟨j,hj⟩:=hex;have wn:∀j',eW ops j'=some t->j'=j:=λj' h=>rH hdist _ _ _ h hj
   have later:listed.getD j false=false->i<=j->a.tmps[t]?=(cV ops vs ((D.take i).map iN.dl) 0 a0).tmps[t]?:=λhl hij=>by
    rw[hI.other t (λj' h1 h2=>by rw[wn j' h2,hl] at h1;cases h1),tU ops vs t _ _ _ (λj' _ h2 h3=>by
     have:=wn j' h3;rw[iZ,kT] at h2;omega)]
   rcases Ll xM ho ht hj with rfl|⟨hlt,hp⟩|⟨hlt,hp⟩
   .exact later lY (aZ _)
   .obtain⟨dj,hdj⟩:∃d,D[j]?=some d:=⟨_,dh (by rw[hD];omega)⟩
    by_cases hts:t<a0.tmps.size
    .rw[hI.slot j t dj (hpre _ hp) hj hts hdj];rw[Ag ops vs (λi j t=>rH hdist i j t) t j hj dj.dl ((D.take i).map iN.dl) 0 a0 (Nat.zero_le _) (by rw[Nat.sub_zero];exact IN _ _ _ (by rw[List.getElem?_take,if_pos hlt,hdj])) hts]
    .have od:a0.tmps.size<=t:=Nat.le_of_not_lt hts;rw[pv (by rw[hI.mW];exact od),pv (by rw[uQ];exact od)]
   .refine later ?_ (by omega);cases hl:listed.getD j false;rfl
    .have:=hI.down _ _ hl hp;rw[lY] at this;cases this
  .rw[hI.other t (λj h1 h2=>hex ⟨j,h2⟩),tU ops vs t _ _ _ (λj _ _ h3=>hex ⟨j,h3⟩)]
 have hsize:a.tmps.size=(cV ops vs ((D.take i).map iN.dl) 0 a0).tmps.size:=by rw[uQ,hI.mW]
 have Ah:execOp a.eval o=execOp (cV ops vs ((D.take i).map iN.dl) 0 a0).eval o:=Ln (λcs b=>Region.noSelect_spec hsel i o cs b ho) wm;have xN:=apw wm;have yW:(listed.setIfInBounds i true).getD i false=true:=by simp[Bd]
 have hne:∀c,c≠i->(listed.setIfInBounds i true).getD c false=listed.getD c false:=λc hc=>getD_set_ne false (Ne.symm hc)
 have wu:(λj=>(listed.setIfInBounds i true).getD j false)=dE (λj=>listed.getD j false) i:=by
  funext j
  by_cases hj:j=i
  .subst hj;rw[FV];exact yW
  .rw[kR _ hj];exact hne j hj
 have tV:∀vs' v w',(∀j,j≠i->vs' j=vs j)->d.dl.val i vs'=v->aP (dE (λj=>listed.getD j false) i) vs' w'->∃vs',apj ops aP a0 D (listed.setIfInBounds i true) (a.put o.dst v) w' vs':=by
  intro vs' v w' hvs hval hst;refine⟨vs',⟨by simpa using hI.size,?_,by rw[put_defers];exact hI.defers,by rw[Er];exact hI.mW,?_,?_,by rw[wu];exact hst⟩⟩
  .intro j p hj hp;rcases uR hj with rfl|hj
   .exact getD_set_true (hpre p hp)
   .exact getD_set_true (hI.down _ _ hj hp)
  .intro j t dj hj hjt hts hdj;by_cases hji:j=i
   .subst hji;rw[hd] at hdj;injection hdj with hdj;subst hdj;rw[<- rI,hjt,Ch _ _ _ (by rw[hI.mW];exact hts),hval]
   .rcases uR hj with rfl|hj
    .exact absurd rfl hji
    .rw[yH _ _ _ _ (λe=>hji (rH hdist j i t hjt (by rw[rI,e]))),hI.slot j t dj hj hjt hts hdj];cases dj with
     |bL v ps=>rfl
     |op ps=>show some (vs j)=some (vs' j);rw[hvs j hji]
  .intro t ht;have yL:o.dst≠some t:=by
    rw[<- rI];exact ht i yW
   rw[yH _ _ _ _ yL,hI.other t (λj hj=>ht j (getD_set_true hj))]
 have yf:∀{R:Value->World->Prop},qR P ops o (cV ops vs ((D.take i).map iN.dl) 0 a0) w R->(∀v w',R v w'->∃vs',apj ops aP a0 D (listed.setIfInBounds i true) (a.put o.dst v) w' vs')->wpOp P ops Q i (λa' w'=>∃vs',apj ops aP a0 D (listed.setIfInBounds i true) a' w' vs') a w:=by
  intro R hrun fin;have hr:=hrun (λa' w'=>∃v',a'=(cV ops vs ((D.take i).map iN.dl) 0 a0).put o.dst v'/\R v' w') (λv w' h=>⟨v,rfl,h⟩);unfold wpOp;simp only[ho];rw[xN];split
  .rename_i hw;rw[if_pos hw] at hr;refine .inl (GQ (Oper.wp_mono (λa' w' h=>?_) (wp_move hsize Ah hr)));obtain⟨v,rfl,h⟩:=h;exact fin v w' h
  .rename_i hw;rw[if_neg hw] at hr;obtain⟨v,hv,h⟩:=hr;rw[yJ hsize hv];exact fin v w h
 have hst:=hI.st;cases d with
 |bL v ps=>
  refine yf (oH.2 _ vs w lY (λp hp=>hpre p (oH.1 p hp)) hst) λv' w' ⟨h1,h2⟩=>?_
  subst h1;exact tV vs v' w' (λ_ _=>rfl) rfl h2
 |op ps=>
  refine yf (oH.2 _ vs w lY (λp hp=>hpre p (oH.1 p hp)) hst) λv' w' h2=>?_
  exact tV (fU vs i v') v' w' (λj hj=>jQ vs v' hj) (eV vs i v') h2
theorem NB{id:Nat}{w:World}{l:List Oper}{out:List BB}(aP:(Nat->Bool)->bY->World->Prop)(hm:P.follows .mixedOrders=true)(hg:qU l.toArray=true)(h0:∀L vs,(∀i,L i=false)->aP L vs w.drew)(h:∀aF:Act->World->Prop,Shut (∀a w',Q .normal a w'->aF a w')->cE P aF aP l 0 (λ_=>a0) out)(hc:FX l.toArray out=true):(Code.region id l.toArray true).wp P Q a0 w:=by
 obtain⟨D,hD,hA,aS⟩:=cE.data (Q:=Q) (ops:=l.toArray) (a0:=a0) (λa w h=>h) (h (λa w'=>Q .normal a w') (λa w' h=>h)) [] rfl hc (λ_=>rfl) rfl (Nat.zero_le _);rw[gY] at hD;simp only[gY,dV] at hA aS;refine wp_region_any hm ?_;refine Lq (I:=λlisted a w1=>∃vs,apj l.toArray aP a0 D listed a w1 vs) ?_ ?_ ?_ _ _ _ _ ?_ ?_
 .rintro listed a w1⟨vs,hI⟩ hr;have hg':=hg;simp only[qU,ij] at hg';obtain⟨⟨⟨hsel,xM⟩,hdist⟩,yK⟩:=hg';have hall:=Pl yK hI.size hr;have ha:a=cV l.toArray vs (D.map iN.dl) 0 a0:=by
   have h1:a.tmps=(cV l.toArray vs (D.map iN.dl) 0 a0).tmps:=by
    apply Array.ext_getElem?;intro t;by_cases hex:∃j,eW l.toArray j=some t
    .obtain⟨j,hj⟩:=hex;obtain⟨dj,hdj⟩:∃d,D[j]?=some d:=⟨_,dh (by rw[hD];exact yI hj)⟩
     by_cases hts:t<a0.tmps.size
     .rw[hI.slot j t dj (hall j (yI hj)) hj hts hdj,Ag l.toArray vs (λi j t=>rH hdist i j t) t j hj dj.dl (D.map iN.dl) 0 a0 (Nat.zero_le _) (by rw[Nat.sub_zero,List.getElem?_map,hdj];rfl) hts]
     .have od:a0.tmps.size<=t:=Nat.le_of_not_lt hts;rw[pv (by rw[hI.mW];exact od),pv (by rw[uQ];exact od)]
    .rw[hI.other t (λj _ h2=>hex ⟨j,h2⟩),tU l.toArray vs t _ _ _ (λj _ _ h3=>hex ⟨j,h3⟩)]
   have h2:a.defers=(cV l.toArray vs (D.map iN.dl) 0 a0).defers:=by rw[Lk,hI.defers]
   cases a;generalize cV l.toArray vs (D.map iN.dl) 0 a0=b at *;cases b;simp only at h1 h2;rw[h1,h2]
  rw[ha];exact aS _ vs w1 (λi hi=>hall i hi) hI.st
 .rintro listed a w1 i⟨vs,hI⟩ hi;exact apj.step hg hD (λj o d hd ho=>hA j o d hd ho) hI hi
 .rintro listed a w1⟨vs,hI⟩;exact hI.size
 .exact bQ List.countP_le_length (by simp)
 .have hz:∀i,(Array.replicate l.toArray.size false).getD i false=false:=λi=>by
   simp only[Array.getD_eq_getD_getElem?,Array.getElem?_replicate];split <;>rfl
  have hno:∀i,¬(Array.replicate l.toArray.size false).getD i false=true:=λi h=>by rw[hz] at h;cases h
  exact⟨λ_=>undef,⟨by simp,λi p h=>absurd h (hno i),rfl,rfl,λi t d h=>absurd h (hno i),λt _=>rfl,h0 _ _ hz⟩⟩
end
section
variable{P:Program}{aF:Act->World->Prop}{aP:(Nat->Bool)->bY->World->Prop}{o:Oper}{rest:List Oper}{k:Nat}{b:bY->Act}{out:List BB}
theorem cE.fin(h:∀L vs w,(∀i,i<k->L i=true)->aP L vs w->aF (b vs) w):cE P aF aP [] k b []:= .done h
theorem cE.ok{v:Value}(ps:List Nat)(h:∀L vs w,(∀p∈ps,L p=true)->aP L vs w->(execOp (b vs).eval o).run P w= .ok (.value v) w)(hs:∀L vs w,aP L vs w->aP (dE L k) vs w)(hg:o.guard=none)(hr:cE P aF aP rest (k+1) (λvs=>(b vs).put o.dst v) out):cE P aF aP (o::rest) k b (⟨k,ps,none⟩::out):=
 .bL v none ps (λL vs w hk hp hS=>⟨true,.inl (by simp only[Want,hg]),λK hK=>by
  rw[if_pos rfl,Oper.wp,h L vs w hp hS];exact hK.out w (hs L vs w hS)⟩) hr
theorem cE.call(v:Value)(ps:List Nat)(hg:o.guard=none)(h:∀L vs w,L k=false->(∀p∈ps,L p=true)->aP L vs w->∀K:Act->World->Prop,Shut (∀w',aP (dE L k) vs w'->K ((b vs).put o.dst v) w')->o.wp P (b vs) w K (λ_ _ _=>False))(hr:cE P aF aP rest (k+1) (λvs=>(b vs).put o.dst v) out):cE P aF aP (o::rest) k b (⟨k,ps,none⟩::out):=
 .bL v none ps (λL vs w hk hp hS=>⟨true,.inl (by simp only[Want,hg]),λK hK=>by
  rw[if_pos rfl];exact h L vs w hk hp hS K hK⟩) hr
theorem cE.cG(ps:List Nat)(hg:o.guard=none)(h:∀L vs w,L k=false->(∀p∈ps,L p=true)->aP L vs w->∀K:Act->World->Prop,Shut (∀v w',aP (dE L k) (fU vs k v) w'->K ((b vs).put o.dst v) w')->o.wp P (b vs) w K (λ_ _ _=>False))(hr:cE P aF aP rest (k+1) (λvs=>(b vs).put o.dst (vs k)) out):cE P aF aP (o::rest) k b (⟨k,ps,none⟩::out):=
 .op none ps (λL vs w hk hp hS=>⟨true,.inl (by simp only[Want,hg]),λK hK=>by
  rw[if_pos rfl];exact h L vs w hk hp hS K hK⟩) hr
end
end V
namespace V
open Go Go.CheckFast Go.RowKit
structure lQ(lR Pre:World->Prop)(F:Value->World->Prop)(z:Value)(k:Nat)(L:Nat->Bool)(vs:bY)(W:World):Prop where
 base:lR W
 pre:L k=false->Pre W/\L (k+1)=false/\L (k+2)=false/\L (k+4)=false
 post:L k=true->∃v,vs k= .tuple #[v,z]/\F v W/\(L (k+1)=true->vs (k+1)= .tuple #[v,z])/\(L (k+2)=true->vs (k+2)=v)/\(L (k+4)=true->vs (k+4)=v)
section
variable{P:Program}{aF:Act->World->Prop}{lR Pre:World->Prop}{F:Value->World->Prop}{z:Value}{k:Nat}{o:Oper}{rest:List Oper}{b:bY->Act}{out:List BB}
theorem lQ.skip{L:Nat->Bool}{vs:bY}{W:World}{j:Nat}(h:lQ lR Pre F z k L vs W)(h0:j≠k)(h1:j≠k+1)(h2:j≠k+2)(h4:j≠k+4):lQ lR Pre F z k (dE L j) vs W where
 base:=h.base
 pre:=λe=>by
  rw[kR L (Ne.symm h0)] at e;rw[kR L (Ne.symm h1),kR L (Ne.symm h2),kR L (Ne.symm h4)];exact h.pre e
 post:=λe=>by
  rw[kR L (Ne.symm h0)] at e;rw[kR L (Ne.symm h1),kR L (Ne.symm h2),kR L (Ne.symm h4)];exact h.post e
theorem cE.Tp{j:Nat}{v:Value}(hj:j<k)(h:∀vs W,lR W->(execOp (b vs).eval o).run P W= .ok (.value v) W)(hg:o.guard=none)(hr:cE P aF (lQ lR Pre F z k) rest (j+1) (λvs=>(b vs).put o.dst v) out):cE P aF (lQ lR Pre F z k) (o::rest) j b (⟨j,[],none⟩::out):=
 cE.ok [] (λL vs W _ hS=>h vs W hS.base) (λL vs W hS=>hS.skip (by omega) (by omega) (by omega) (by omega)) hg hr
theorem cE.Tq(hg:o.guard=none)(h:∀vs W,lR W->Pre W->∀K:Act->World->Prop,Shut (∀v W',lR W'->F v W'->K ((b vs).put o.dst (.tuple #[v,z])) W')->o.wp P (b vs) W K (λ_ _ _=>False))(hr:cE P aF (lQ lR Pre F z k) rest (k+1) (λvs=>(b vs).put o.dst (vs k)) out):cE P aF (lQ lR Pre F z k) (o::rest) k b (⟨k,[],none⟩::out):=
 cE.cG [] hg (λL vs W hk _ hS K hK=>by
  obtain⟨hp,l1,l2,l4⟩:=hS.pre hk;refine h vs W hS.base hp K (λv W' hb hf=>hK.out (.tuple #[v,z]) W' ⟨hb,λe=>?_,λ_=>⟨v,eV _ _ _,hf,λe=>?_,λe=>?_,λe=>?_⟩⟩)
  .rw[FV] at e;cases e
  .rw[kR L (show k+1≠k by omega),l1] at e;cases e
  .rw[kR L (show k+2≠k by omega),l2] at e;cases e
  .rw[kR L (show k+4≠k by omega),l4] at e;cases e) hr
theorem NU{a:Act}{W:World}{v:Value}{K:Act->World->Prop}(h:(execOp a.eval o).run P W= .ok (.value v) W)(hK:K (a.put o.dst v) W):o.wp P a W K (λ_ _ _=>False):=by
 rw[Oper.wp,h];exact hK
theorem cE.Tr(h:∀vs W,(execOp (b vs).eval o).run P W= .ok (.value (vs k)) W)(hg:o.guard=none)(hr:cE P aF (lQ lR Pre F z k) rest (k+1+1) (λvs=>(b vs).put o.dst (vs (k+1))) out):cE P aF (lQ lR Pre F z k) (o::rest) (k+1) b (⟨k+1,[k],none⟩::out):=
 cE.cG [k] hg (λL vs W hk hp hS K hK=>by
  have l0:L k=true:=hp k gN;obtain⟨v,v0,hf,v1,v2,v4⟩:=hS.post l0;refine NU (h vs W) (hK.out _ W ⟨hS.base,λe=>?_,λ_=>⟨v,?_,hf,λ_=>?_,λe=>?_,λe=>?_⟩⟩)
  .rw[kR L (show k≠k+1 by omega),l0] at e;cases e
  .rw[jQ vs _ (show k≠k+1 by omega)];exact v0
  .rw[eV];exact v0
  .rw[kR L (show k+2≠k+1 by omega)] at e;rw[jQ vs _ (show k+2≠k+1 by omega)];exact v2 e
  .rw[kR L (show k+4≠k+1 by omega)] at e;rw[jQ vs _ (show k+4≠k+1 by omega)];exact v4 e) hr
theorem cE.Ts(h:∀vs v W,vs (k+1)= .tuple #[v,z]->(execOp (b vs).eval o).run P W= .ok (.value v) W)(hg:o.guard=none)(hr:cE P aF (lQ lR Pre F z k) rest (k+2+1) (λvs=>(b vs).put o.dst (vs (k+2))) out):cE P aF (lQ lR Pre F z k) (o::rest) (k+2) b (⟨k+2,[k,k+1],none⟩::out):=
 cE.cG [k,k+1] hg (λL vs W hk hp hS K hK=>by
  have l0:L k=true:=hp k gN;have l1:L (k+1)=true:=hp (k+1) (kS _ gN);obtain⟨v,v0,hf,v1,v2,v4⟩:=hS.post l0;refine NU (h vs v W (v1 l1)) (hK.out _ W ⟨hS.base,λe=>?_,λ_=>⟨v,?_,hf,λe=>?_,λe=>?_,λe=>?_⟩⟩)
  .rw[kR L (show k≠k+2 by omega),l0] at e;cases e
  .rw[jQ vs _ (show k≠k+2 by omega)];exact v0
  .rw[jQ vs _ (show k+1≠k+2 by omega)];exact v1 l1
  .rw[eV]
  .rw[kR L (show k+4≠k+2 by omega)] at e;rw[jQ vs _ (show k+4≠k+2 by omega)];exact v4 e) hr
theorem cE.Tt(h:∀vs v W,vs (k+1)= .tuple #[v,z]->(execOp (b vs).eval o).run P W= .ok (.value z) W)(hg:o.guard=none)(hr:cE P aF (lQ lR Pre F z k) rest (k+3+1) (λvs=>(b vs).put o.dst z) out):cE P aF (lQ lR Pre F z k) (o::rest) (k+3) b (⟨k+3,[k,k+1],none⟩::out):=
 cE.call z [k,k+1] hg (λL vs W hk hp hS K hK=>by
  have l0:L k=true:=hp k gN;have l1:L (k+1)=true:=hp (k+1) (kS _ gN);obtain⟨v,v0,hf,v1,v2,v4⟩:=hS.post l0;exact NU (h vs v W (v1 l1)) (hK.out W (hS.skip (by omega) (by omega) (by omega) (by omega)))) hr
theorem cE.Tv(h:∀vs W,(execOp (b vs).eval o).run P W= .ok (.value (vs (k+2))) W)(hg:o.guard=none)(hr:cE P aF (lQ lR Pre F z k) rest (k+4+1) (λvs=>(b vs).put o.dst (vs (k+4))) out):cE P aF (lQ lR Pre F z k) (o::rest) (k+4) b (⟨k+4,[k,k+2],none⟩::out):=
 cE.cG [k,k+2] hg (λL vs W hk hp hS K hK=>by
  have l0:L k=true:=hp k gN;have l2:L (k+2)=true:=hp (k+2) (kS _ gN);obtain⟨v,v0,hf,v1,v2,v4⟩:=hS.post l0;refine NU (h vs W) (hK.out _ W ⟨hS.base,λe=>?_,λ_=>⟨v,?_,hf,λe=>?_,λe=>?_,λe=>?_⟩⟩)
  .rw[kR L (show k≠k+4 by omega),l0] at e;cases e
  .rw[jQ vs _ (show k≠k+4 by omega)];exact v0
  .rw[kR L (show k+1≠k+4 by omega)] at e;rw[jQ vs _ (show k+1≠k+4 by omega)];exact v1 e
  .rw[jQ vs _ (show k+2≠k+4 by omega)];exact v2 l2
  .rw[eV];exact v2 l2) hr
theorem cE.Tw(h:∀vs W,(execOp (b vs).eval o).run P W= .ok (.value z) W)(hg:o.guard=none)(hr:cE P aF (lQ lR Pre F z k) rest (k+5+1) (λvs=>(b vs).put o.dst z) out):cE P aF (lQ lR Pre F z k) (o::rest) (k+5) b (⟨k+5,[],none⟩::out):=
 cE.ok [] (λL vs W _ hS=>h vs W) (λL vs W hS=>hS.skip (by omega) (by omega) (by omega) (by omega)) hg hr
theorem cE.Tx(h:∀vs v W,vs k= .tuple #[v,z]->vs (k+1)= .tuple #[v,z]->vs (k+2)=v->vs (k+4)=v->lR W->F v W->aF (b vs) W):cE P aF (lQ lR Pre F z k) [] (k+5+1) b []:=
 cE.fin λL vs W hL hS=>by
  obtain⟨v,v0,hf,v1,v2,v4⟩:=hS.post (hL k (by omega));exact h vs v W v0 (v1 (hL _ (by omega))) (v2 (hL _ (by omega))) (v4 (hL _ (by omega))) hS.base hf
end
theorem lQ.start{lR Pre:World->Prop}{F:Value->World->Prop}{z:Value}{k:Nat}{L:Nat->Bool}{vs:bY}{W:World}(hb:lR W)(hp:Pre W)(h0:∀i,L i=false):lQ lR Pre F z k L vs W:=
 ⟨hb,λ_=>⟨hp,h0 _,h0 _,h0 _⟩,λe=>by rw[h0] at e;cases e⟩
end V
end Go.Proofs.YtfghplfgndppfaaGreatDoor
