/- Texts of this claim, joined: Region, RegionC. -/
import Derived.CheckFast
import Derived.Orders
import Derived.RegionTactic
import Derived.Below
import Derived.Deep.Draws
import Derived.Deep.RegionHeld
import Derived.WalkKit
import Derived.Maps.RangeWalk
import Derived.Lib.Hide
import Derived.Test.YtfghplfgndppfaaGreatDoorZ1
set_option linter.unusedVariables false
set_option linter.unusedSimpArgs false
set_option maxRecDepth 100000
set_option maxHeartbeats 8000000
namespace Go.Proofs.YtfghplfgndppfaaGreatDoor
namespace V
open Go Go.CheckFast Go.RowKit
inductive Pre(ops:Array Oper):Nat->Nat->Prop
 |edge {i:Nat} {o:Oper} {e:Edge} :ops[i]?=some o->e∈o.after->Region.binds .any e=true->Pre ops e.on i
 |more {i p:Nat} {o:Oper} {e:Edge} :ops[i]?=some o->e∈o.after->Region.binds .any e=true->Pre ops p e.on->Pre ops p i
def masks:List Oper->List Nat->List Nat
 | [],acc=>acc
 |o::rest,acc=>force (one (λi=>acc.getD i 0) o) λv=>masks rest (acc++[v])
def sJ(ops:Array Oper)(i p:Nat):Bool:=((masks ops.toList []).getD i 0).testBit p
theorem Vq(look:Nat->Nat)(p:Nat):∀(l:List Edge)(s:Nat),(l.foldl (λs e=>if Region.binds .any e then s|||2^e.on|||look e.on else s) s).testBit p=true->
 s.testBit p=true\/∃e∈l,Region.binds .any e=true/\(e.on=p\/(look e.on).testBit p=true)
 | [],s,h=> .inl h
 |e::l,s,h=>by
  rw[List.foldl_cons] at h;rcases Vq look p l _ h with h|⟨e',he',h'⟩
  .split at h
   .rename_i hb;rw[Nat.testBit_or,Nat.testBit_or,Bool.or_eq_true,Bool.or_eq_true] at h;rcases h with (h|h)|h
    .exact .inl h
    .rw[Nat.testBit_two_pow] at h;exact .inr ⟨e,gN,hb,.inl (by simpa using h)⟩
    .exact .inr ⟨e,gN,hb,.inr h⟩
   .exact .inl h
  .exact .inr ⟨e',kS _ he',h'⟩
theorem Vr{ops:Array Oper} :∀(rest:List Oper)(acc:List Nat),ops.toList.drop acc.length=rest->(∀i p,(acc.getD i 0).testBit p=true->Pre ops p i)->
 ∀i p,((masks rest acc).getD i 0).testBit p=true->Pre ops p i
 | [],acc,_,h=>h
 |o::rest,acc,hr,h=>by
  rw[masks,force_eq];have hlt:acc.length<ops.toList.length:=by
   rcases Nat.lt_or_ge acc.length ops.toList.length with h'|h'
   .exact h'
   .rw[List.drop_eq_nil_of_le h'] at hr;cases hr
  have ho:ops.toList[acc.length]?=some o:=by
   have:=congrArg List.head? hr
   rwa[List.head?_drop,List.head?_cons] at this
  refine Vr rest _ ?_ ?_
  .rw[dG,List.length_singleton,<- List.drop_drop,hr];rfl
  .intro i p hb;rw[oc,List.getElem?_append] at hb;split at hb
   .exact h i p (by rw[oc];exact hb)
   .rename_i hge;by_cases he:i=acc.length
    .subst he;rw[Nat.sub_self] at hb;have hb':(one (λi=>acc.getD i 0) o).testBit p=true:=hb;unfold one at hb';rw[<- Array.foldl_toList] at hb';rcases Vq (λi=>acc.getD i 0) p o.after.toList 0 hb' with h0|⟨e,hm,hbd,hp⟩
     .simp at h0
     .have hm':e∈o.after:=by simpa using hm
      have ho':ops[acc.length]?=some o:=by simpa using ho
      rcases hp with rfl|hp
      .exact .edge ho' hm' hbd
      .exact .more ho' hm' hbd (h _ _ hp)
    .have:([one (λi=>acc.getD i 0) o]:List Nat)[i-acc.length]?=none:=by
      apply List.getElem?_eq_none;simp;omega
     rw[this] at hb;simp at hb
theorem v8{ops:Array Oper}{i p:Nat}(h:sJ ops i p=true):Pre ops p i:=
 Vr ops.toList [] rfl (λi p h=>by simp at h) i p h
abbrev bY:=Nat->Value
def fU(vs:bY)(k:Nat)(v:Value):bY:=λi=>bif Nat.beq i k then v else vs i
theorem eV(vs:bY)(k:Nat)(v:Value):fU vs k v k=v:=by simp[fU]
theorem jQ(vs:bY){k i:Nat}(v:Value)(h:i≠k):fU vs k v i=vs i:=by
 unfold fU;cases h':Nat.beq i k;rfl;exact absurd (Nat.eq_of_beq_eq_true h') h
structure af(X:Nat->Prop)(w w':World):Prop where
 os:w'.os=w.os
 tape:w'.tape=w.tape
 output:w'.output=w.output
 size:w.heap.size<=w'.heap.size
 block:∀k,k<w.heap.size->¬X k->w'.heap[k]?=w.heap[k]?
theorem af.refl(X:Nat->Prop)(w:World):af X w w:=⟨rfl,rfl,rfl,aZ _,λ_ _ _=>rfl⟩
theorem af.up{w w':World}(h:af (λ_=>False) w w'):Below w.heap.size w w':=⟨h.os,h.tape,h.output,h.size,λk hk=>h.block k hk id⟩
theorem af.co{X:Nat->Prop}{w w':World}(h:Below w.heap.size w w'):af X w w':=⟨h.os,h.tape,h.output,h.size,λk hk _=>h.block k hk⟩
structure qQ(Y:Nat->Prop)(w w':World):Prop where
 size:w.heap.size<=w'.heap.size
 block:∀g,g<w.heap.size->Y g->w'.heap[g]?=w.heap[g]?
structure Shape where
 idx:Nat
 uses:List Nat
 eats:List Nat
structure j6 where
 idx:Nat
 F:bY->World->Prop
 own:bY->Nat->Prop
def iP:List j6->Nat->bY->World->Prop
 | [],_,_,_=>True
 |e::r,p,vs,w=>bif Nat.beq e.idx p then e.F vs w else iP r p vs w
def jt:List j6->Nat->bY->Nat->Prop
 | [],_,_,_=>False
 |e::r,p,vs,g=>bif Nat.beq e.idx p then e.own vs g else jt r p vs g
def qR(P:Program)(ops:Array Oper)(o:Oper)(a:Act)(w:World)(R:Value->World->Prop):Prop:=
 ∀K:Act->World->Prop,(∀v w',R v w'->K (a.put o.dst v) w')->
  if Region.wanted o (yielded ops a.tmps)=true then o.wp P a w K (λ_ _ _=>False) else K (a.put o.dst undef) w
def wj(ops:Array Oper)(sh:List Shape)(k:Nat)(uses eats:List Nat):Bool:=
 uses.all (λp=>(Nat.ble ops.size p||sJ ops k p)&&sh.all λs=> !s.eats.contains p) &&
 eats.all (λp=>uses.contains p&&sh.all λs=> !s.uses.contains p||sJ ops k s.idx)
section
variable(P:Program)(ops:Array Oper)(Q:Exit->Act->World->Prop)(aW:Nat->Prop)(w0:World)(S:World->Prop)
inductive wk:List Oper->Nat->List Shape->List j6->(bY->Act)->Prop
 |done {k:Nat} {sh:List Shape} {Γ:List j6} {b:bY->Act}
  (h:∀vs w,af aW w0 w->S w->(∀p,(sh.all λs=> !s.eats.contains p)=true->iP Γ p vs w)->Q .normal (b vs) w):wk [] k sh Γ b
 |val {o:Oper} {rest:List Oper} {k:Nat} {sh:List Shape} {Γ:List j6} {b:bY->Act} (v:Value) (uses:List Nat) (hc:wj ops sh k uses []=true)
  (h:∀vs w,af aW w0 w->S w->(∀p∈uses,iP Γ p vs w)->qR P ops o (b vs) w λv' w'=>v'=v/\af (λ_=>False) w w')
  (hr:wk rest (k+1) (sh++[⟨k,uses,[]⟩]) Γ (λvs=>(b vs).put o.dst v)):wk (o::rest) k sh Γ b
 |op {o:Oper} {rest:List Oper} {k:Nat} {sh:List Shape} {Γ:List j6} {b:bY->Act} (F:bY->World->Prop) (own:bY->Nat->Prop) (uses eats:List Nat) (hc:wj ops sh k uses eats=true)
  (hd:∀vs vs':bY,(∀i,i=k\/sJ ops k i=true->vs i=vs' i)->F vs=F vs'/\own vs=own vs')
  (hs:∀vs w w',F vs w->qQ (λg=>(g<w0.heap.size/\¬aW g)\/own vs g) w w'->F vs w')
  (h:∀vs w,af aW w0 w->S w->(∀p∈uses,iP Γ p vs w)->qR P ops o (b vs) w λv w'=>
   F (fU vs k v) w'/\af (λg=>∃p∈eats,jt Γ p vs g) w w'/\∀g,own (fU vs k v) g->g<w'.heap.size/\(w.heap.size<=g\/∃p∈eats,jt Γ p vs g))
  (hr:wk rest (k+1) (sh++[⟨k,uses,eats⟩]) (Γ++[⟨k,F,own⟩]) (λvs=>(b vs).put o.dst (vs k))):wk (o::rest) k sh Γ b
end
inductive eF where
 |bL (v:Value) (uses:List Nat)
 |cG (F:bY->World->Prop) (own:bY->Nat->Prop) (uses eats:List Nat)
def eF.val:eF->Nat->bY->Value
 |.bL v _,_,_=>v
 |.cG _ _ _ _,k,vs=>vs k
def eF.uses:eF->List Nat
 |.bL _ u=>u
 |.cG _ _ u _=>u
def eF.eats:eF->List Nat
 |.bL _ _=> []
 |.cG _ _ _ e=>e
def eF.sh(d:eF)(k:Nat):Shape:=⟨k,d.uses,d.eats⟩
def eF.F:eF->bY->World->Prop
 |.bL _ _,_,_=>True
 |.cG F _ _ _,vs,w=>F vs w
def eF.own:eF->bY->Nat->Prop
 |.bL _ _,_,_=>False
 |.cG _ o _ _,vs,g=>o vs g
def fH:List eF->Nat->List j6
 | [],_=> []
 |.bL _ _::r,k=>fH r (k+1)
 |.cG F own _ _::r,k=>⟨k,F,own⟩::fH r (k+1)
def qS:List eF->Nat->List Shape
 | [],_=> []
 |d::r,k=>d.sh k::qS r (k+1)
def eW(ops:Array Oper)(k:Nat):Option Tmp:=(ops[k]?).bind (·.dst)
def cV(ops:Array Oper)(vs:bY):List eF->Nat->Act->Act
 | [],_,a=>a
 |d::r,k,a=>cV ops vs r (k+1) (a.put (eW ops k) (d.val k vs))
theorem Ep:∀(D:List eF)(E:List eF)(k:Nat),fH (D++E) k=fH D k++fH E (k+D.length)
 | [],_,_=>rfl
 |.bL _ _::r,E,k=>by simp only[List.cons_append,fH,Ep r E (k+1),iu];rw[Nat.add_right_comm k 1,Nat.add_assoc k]
 |.cG _ _ _ _::r,E,k=>by simp only[List.cons_append,fH,Ep r E (k+1),iu];rw[Nat.add_right_comm k 1,Nat.add_assoc k]
theorem Pi:∀(D:List eF)(E:List eF)(k:Nat),qS (D++E) k=qS D k++qS E (k+D.length)
 | [],_,_=>rfl
 |d::r,E,k=>by simp only[List.cons_append,qS,Pi r E (k+1),iu];rw[Nat.add_right_comm k 1,Nat.add_assoc k]
theorem apq(ops:Array Oper)(vs:bY):∀(D:List eF)(E:List eF)(k:Nat)(a:Act),cV ops vs (D++E) k a=cV ops vs E (k+D.length) (cV ops vs D k a)
 | [],_,_,_=>rfl
 |d::r,E,k,a=>by simp only[List.cons_append,cV,apq ops vs r E (k+1),iu];rw[Nat.add_right_comm k 1,Nat.add_assoc k]
theorem Er(a:Act)(d:Option Tmp)(v:Value):(a.put d v).tmps.size=a.tmps.size:=by cases d <;>simp[Act.put]
theorem put_defers(a:Act)(d:Option Tmp)(v:Value):(a.put d v).defers=a.defers:=by cases d <;>rfl
theorem Ch(a:Act)(t:Tmp)(v:Value)(h:t<a.tmps.size):(a.put (some t) v).tmps[t]?=some v:=by simp[Act.put,h]
theorem yH(a:Act)(d:Option Tmp)(t:Tmp)(v:Value)(h:d≠some t):(a.put d v).tmps[t]?=a.tmps[t]?:=by
 cases d with
 |none=>rfl
 |some e=>exact pZ (λhe=>h (by rw[he]))
theorem uQ(ops:Array Oper)(vs:bY):∀(D:List eF)(k:Nat)(a:Act),(cV ops vs D k a).tmps.size=a.tmps.size
 | [],_,_=>rfl
 |d::r,k,a=>by rw[cV,uQ ops vs r,Er]
theorem Lk(ops:Array Oper)(vs:bY):∀(D:List eF)(k:Nat)(a:Act),(cV ops vs D k a).defers=a.defers
 | [],_,_=>rfl
 |d::r,k,a=>by rw[cV,Lk ops vs r,put_defers]
theorem tU(ops:Array Oper)(vs:bY)(t:Tmp):∀(D:List eF)(k:Nat)(a:Act),(∀i,k<=i->i<k+D.length->eW ops i≠some t)->(cV ops vs D k a).tmps[t]?=a.tmps[t]?
 | [],_,_,_=>rfl
 |d::r,k,a,h=>by
  rw[cV,tU ops vs t r _ _ (λi h1 h2=>h i (by omega) (by simp only[iu];omega)),yH _ _ _ _ (h k (aZ _) (by simp))]
theorem Ag(ops:Array Oper)(vs:bY)(hdist:∀i j t,eW ops i=some t->eW ops j=some t->i=j)(t:Tmp)(i:Nat)(hi:eW ops i=some t)(d:eF):∀(D:List eF)(k:Nat)(a:Act),k<=i->D[i-k]?=some d->t<a.tmps.size->(cV ops vs D k a).tmps[t]?=some (d.val i vs)
 | [],k,a,_,h,_=>by simp at h
 |d'::r,k,a,hk,h,ht=>by
  rw[cV];by_cases he:i=k
  .subst he;rw[Nat.sub_self] at h;obtain rfl:d'=d:=by simpa using h
   rw[tU ops vs t r _ _ (λj h1 _ hj=>by have:=hdist _ _ _ hi hj;omega),hi];exact Ch _ _ _ ht
  .refine Ag ops vs hdist t i hi d r (k+1) _ (by omega) ?_ (by rw[Er];exact ht);rw[show i-k=(i-(k+1))+1 by omega] at h;simpa using h
theorem Vt(p:Nat)(vs:bY)(w:World):∀(Γ Δ:List j6),iP (Γ++Δ) p vs w->iP Γ p vs w
 | [],_,_=>trivial
 |e::r,Δ,h=>by
  simp only[List.cons_append,iP] at h|-;cases hb:Nat.beq e.idx p <;>simp only[hb,cond_true,cond_false] at h|-
  .exact Vt p vs w r Δ h
  .exact h
theorem Vu(p:Nat)(vs:bY)(g:Nat):∀(Γ Δ:List j6),jt Γ p vs g->jt (Γ++Δ) p vs g
 | [],_,h=>h.elim
 |e::r,Δ,h=>by
  simp only[List.cons_append,jt] at h|-;cases hb:Nat.beq e.idx p <;>simp only[hb,cond_true,cond_false] at h|-
  .exact Vu p vs g r Δ h
  .exact h
theorem Vv(vs:bY)(w:World)(p:Nat):∀(D:List eF)(k:Nat),k<=p->(iP (fH D k) p vs w↔∀d,D[p-k]?=some d->d.F vs w)
 | [],k,_=>by simp[fH,iP]
 |d::r,k,hk=>by
  by_cases he:p=k
  .subst he;cases d with
   |bL v u=>
    rw[fH];simp only[Nat.sub_self,List.getElem?_cons_zero,Option.some.injEq,forall_eq',eF.F,iff_true];have:∀(D:List eF)(j:Nat),p<j->iP (fH D j) p vs w:=by
     intro D;induction D with
     |nil=>intro j _;trivial
     |cons d r ih=>
      intro j hj;cases d with
      |bL v u=>exact ih _ (by omega)
      |cG F own u e=>
       show(bif Nat.beq j p then F vs w else iP (fH r (j+1)) p vs w);cases hb:Nat.beq j p
       .exact ih _ (by omega)
       .have:=Nat.eq_of_beq_eq_true hb;omega
    exact this r (p+1) (by omega)
   |cG F own u e=>
    simp[fH,iP,eF.F]
  .have Pj:=Vv vs w p r (k+1) (by omega);rw[show p-k=(p-(k+1))+1 by omega,List.getElem?_cons_succ,<- Pj];cases d with
   |bL v u=>rfl
   |cG F own u e=>
    show(bif Nat.beq k p then F vs w else iP (fH r (k+1)) p vs w)↔_;cases hb:Nat.beq k p;rfl;exact absurd (Nat.eq_of_beq_eq_true hb).symm he
theorem Vw(vs:bY)(g:Nat)(p:Nat):∀(D:List eF)(k:Nat),k<=p->(jt (fH D k) p vs g↔∃d,D[p-k]?=some d/\d.own vs g)
 | [],k,_=>by simp[fH,jt]
 |d::r,k,hk=>by
  by_cases he:p=k
  .subst he;cases d with
   |bL v u=>
    rw[fH];simp only[Nat.sub_self,List.getElem?_cons_zero,Option.some.injEq,eF.own,exists_eq_left',iff_false];have:∀(D:List eF)(j:Nat),p<j->¬jt (fH D j) p vs g:=by
     intro D;induction D with
     |nil=>intro j _ h;exact h
     |cons d r ih=>
      intro j hj;cases d with
      |bL v u=>exact ih _ (by omega)
      |cG F own u e=>
       show¬(bif Nat.beq j p then own vs g else jt (fH r (j+1)) p vs g);cases hb:Nat.beq j p
       .exact ih _ (by omega)
       .have:=Nat.eq_of_beq_eq_true hb;omega
    exact this r (p+1) (by omega)
   |cG F own u e=>
    simp[fH,jt,eF.own]
  .have Pj:=Vw vs g p r (k+1) (by omega);rw[show p-k=(p-(k+1))+1 by omega,List.getElem?_cons_succ,<- Pj];cases d with
   |bL v u=>rfl
   |cG F own u e=>
    show(bif Nat.beq k p then own vs g else jt (fH r (k+1)) p vs g)↔_;cases hb:Nat.beq k p;rfl;exact absurd (Nat.eq_of_beq_eq_true hb).symm he
def Vx(ops:Array Oper):Bool:=
 (List.range ops.size).all λi=>match ops[i]? with
  |none=>true
  |some o=>(o.looksAt ops).all λt=>(List.range ops.size).all λj=> !(eW ops j==some t)||Nat.beq j i||(Nat.blt j i&&sJ ops i j)||(Nat.blt i j&&sJ ops j i)
def Vy(ops:Array Oper):Bool:=
 (List.range ops.size).all λi=>(List.range ops.size).all λj=>Nat.beq i j||(match eW ops i with|none=>true|some t=> !(eW ops j==some t))
def Pk(ops:Array Oper):Bool:=
 (List.range ops.size).all λi=>match ops[i]? with
  |none=>true
  |some o=>o.after.all λe=> !Region.binds .any e||Nat.blt e.on i
def qU(ops:Array Oper):Bool:=Region.noSelect ops&&Vx ops&&Vy ops&&Pk ops
theorem A7{ops:Array Oper}(h:Pk ops=true){i:Nat}{o:Oper}(ho:ops[i]?=some o){e:Edge}(he:e∈o.after)(hb:Region.binds .any e=true):e.on<i:=by
 have h1:=List.all_eq_true.1 h i (List.mem_range.2 (aB ho));rw[ho] at h1;have h2:=Array.all_eq_true_iff_forall_mem.1 h1 e he;simp only[hb,Bool.not_true,Bool.false_or] at h2;rw[Nat.blt_eq] at h2;exact h2
theorem Pl{ops:Array Oper}(h:Pk ops=true){listed:Array Bool}(hs:listed.size=ops.size)(hr:Region.ready .any ops listed= []):∀i,i<ops.size->listed.getD i false=true:=by
 intro i;induction i using Nat.strongRecOn with
 |_ i ih=>
  intro hi;cases hl:listed.getD i false
  .exfalso
   have hlt:i<listed.size:=by omega
   obtain⟨o,ho⟩:∃o,ops[i]?=some o:=⟨_,mV hi⟩
   have:i∈Region.ready .any ops listed:=mem_ready.2 ⟨by simpa[hlt] using hl,o,ho,λe he hb=>by
    have:=A7 h ho he hb;exact ih _ this (by omega)⟩
   rw[hr] at this;cases this
  .rfl
theorem yI{ops:Array Oper}{i:Nat}{t:Tmp}(h:eW ops i=some t):i<ops.size:=by
 unfold eW at h;rcases Nat.lt_or_ge i ops.size with h'|h'
 .exact h'
 .rw[pv h'] at h;cases h
theorem rH{ops:Array Oper}(h:Vy ops=true)(i j:Nat)(t:Tmp)(hi:eW ops i=some t)(hj:eW ops j=some t):i=j:=by
 have h1:=List.all_eq_true.1 (List.all_eq_true.1 h i (List.mem_range.2 (yI hi))) j (List.mem_range.2 (yI hj));rw[hi,hj] at h1;simpa using h1
theorem Ll{ops:Array Oper}(h:Vx ops=true){i:Nat}{o:Oper}(ho:ops[i]?=some o){t:Tmp}(ht:t∈o.looksAt ops){j:Nat}(hj:eW ops j=some t):
 j=i\/(j<i/\Pre ops j i)\/(i<j/\Pre ops i j):=by
 have h1:=List.all_eq_true.1 h i (List.mem_range.2 (aB ho));rw[ho] at h1;have h2:=List.all_eq_true.1 (List.all_eq_true.1 h1 t ht) j (List.mem_range.2 (yI hj));rw[hj] at h2;simp only[BEq.rfl,Bool.not_true,Bool.false_or,Bool.or_eq_true,ij] at h2;rcases h2 with (h2|⟨h2,h3⟩)|⟨h2,h3⟩
 .exact .inl (Nat.eq_of_beq_eq_true h2)
 .exact .inr (.inl ⟨(by rw[Nat.blt_eq] at h2;exact h2),v8 h3⟩)
 .exact .inr (.inr ⟨(by rw[Nat.blt_eq] at h2;exact h2),v8 h3⟩)
theorem GQ{P:Program}{o:Oper}{a:Act}{w:World}{K:Act->World->Prop}{Q:Exit->Act->World->Prop}(h:o.wp P a w K (λ_ _ _=>False)):o.wp P a w K Q:=by
 unfold Oper.wp at *;generalize (execOp a.eval o).run P w=r at *;cases r with
 |ok n w'=>
  cases n <;>simp only[Oper.upon] at h|- <;>first
   |exact h
   |exact Calls.mono h (λe w'' he=>by
    cases e with
    |returned v=>exact he
    |panicked c=>exact he.elim
    |outgrown=>obtain⟨_,_,h⟩:=he;exact h.elim)
 |halt x w'=>cases x <;>simp only[Oper.upon] at h|-
theorem yJ{a b:Act}(hs:a.tmps.size=b.tmps.size){d:Option Tmp}{v u:Value}(h:b.put d v=b.put d u):a.put d v=a.put d u:=by
 cases d with
 |none=>rfl
 |some t=>
  by_cases ht:t<a.tmps.size
  .have ht':t<b.tmps.size:=by rw[<- hs];exact ht
   have e1:=Ch b t v ht';rw[h,Ch b t u ht'] at e1;injection e1 with e1;rw[e1]
  .have h0:∀x:Value,a.tmps.setIfInBounds t x=a.tmps:=λx=>by rw[Array.setIfInBounds];simp[ht]
   simp only[Act.put,h0]
theorem wp_move{P:Program}{o:Oper}{a b:Act}{w:World}{R:Value->World->Prop}(hs:a.tmps.size=b.tmps.size)(he:execOp a.eval o=execOp b.eval o)(h:o.wp P b w (λa' w'=>∃v,a'=b.put o.dst v/\R v w') (λ_ _ _=>False)):o.wp P a w (λa' w'=>∃v,a'=a.put o.dst v/\R v w') (λ_ _ _=>False):=by
 unfold Oper.wp at *;rw[he];generalize (execOp b.eval o).run P w=r at *;cases r with
 |ok n w'=>
  cases n <;>simp only[Oper.upon] at h|-
  case value v=>obtain⟨u,hu,hR⟩:=h;exact⟨u,yJ hs hu,hR⟩
  case skip=>obtain⟨u,hu,hR⟩:=h;exact⟨u,yJ hs hu,hR⟩
  case defer d=>
   obtain⟨u,hu,hR⟩:=h;exfalso
   have h1:=congrArg (λa:Act=>a.defers.length) hu;simp[put_defers] at h1
  case enter f args=>
   refine Calls.mono h λe w'' he=>?_
   cases e with
   |returned v=>obtain⟨u,hu,hR⟩:=he;exact⟨u,yJ hs hu,hR⟩
   |panicked c=>exact he
   |outgrown=>obtain⟨_,_,h⟩:=he;exact h.elim
  case row row args=>exact Rows.mono h λv w'' ⟨u,hu,hR⟩=>⟨u,yJ hs hu,hR⟩
 |halt x w'=>cases x <;>simp only[Oper.upon] at h|-
theorem K0{a b:Act}{x:Operand}(h:∀t,x= .tmp t->a.tmps[t]?=b.tmps[t]?):a.eval x=b.eval x:=by
 cases x with
 |tmp t=>
  have:=h t rfl;simp only[Act.eval,Array.getD_eq_getD_getElem?,this]
 |_=>rfl
theorem Ln{ops:Array Oper}{o:Oper}(hs:∀cs b,o.op≠ .select cs b){a b:Act}(h:∀t,t∈o.looksAt ops->a.tmps[t]?=b.tmps[t]?):execOp a.eval o=execOp b.eval o:=
 execOp_congr o hs λx hx=>K0 λt ht=>h t (by
  subst ht;exact List.mem_append_left _ (List.mem_filterMap.2 ⟨.tmp t,by simpa using hx,rfl⟩))
theorem apw{ops:Array Oper}{o:Oper}{a b:Act}(h:∀t,t∈o.looksAt ops->a.tmps[t]?=b.tmps[t]?):Region.wanted o (yielded ops a.tmps)=Region.wanted o (yielded ops b.tmps):=by
 unfold Region.wanted;cases hg:o.guard with
 |none=>rfl
 |some cR=>
  obtain⟨g,want⟩:=cR;have hy:yielded ops a.tmps g=yielded ops b.tmps g:=by
   unfold yielded;cases ht:(ops[g]?).bind (·.dst) with
   |none=>rfl
   |some t=>
    have:=h t (by simp[Oper.looksAt,hg,ht]);simp only[Option.bind_some,this]
  simp only[hy]
def GR(P:Program)(ops:Array Oper)(aW:Nat->Prop)(w0:World)(S:World->Prop)(a0:Act)(lx:j6)(D:List eF)(k:Nat)(o:Oper):eF->Prop
 |.bL v uses=>wj ops (qS D 0) k uses []=true/\∀vs w,af aW w0 w->S w->(∀p∈uses,iP (lx::fH D 0) p vs w)->
  qR P ops o (cV ops vs D 0 a0) w λv' w'=>v'=v/\af (λ_=>False) w w'
 |.cG F own uses eats=>wj ops (qS D 0) k uses eats=true/\
  (∀vs vs':bY,(∀i,i=k\/sJ ops k i=true->vs i=vs' i)->F vs=F vs'/\own vs=own vs')/\
  (∀vs w w',F vs w->qQ (λg=>(g<w0.heap.size/\¬aW g)\/own vs g) w w'->F vs w')/\
  ∀vs w,af aW w0 w->S w->(∀p∈uses,iP (lx::fH D 0) p vs w)->qR P ops o (cV ops vs D 0 a0) w λv w'=>
   F (fU vs k v) w'/\af (λg=>∃p∈eats,jt (lx::fH D 0) p vs g) w w'/\∀g,own (fU vs k v) g->g<w'.heap.size/\(w.heap.size<=g\/∃p∈eats,jt (lx::fH D 0) p vs g)
section
variable{P:Program}{ops:Array Oper}{Q:Exit->Act->World->Prop}{aW:Nat->Prop}{w0:World}{S:World->Prop}
theorem wk.data{a0:Act}{lx:j6}{rest:List Oper}{k:Nat}{sh:List Shape}{Γ:List j6}{b:bY->Act}(h:wk P ops Q aW w0 S rest k sh Γ b):
 ∀D:List eF,D.length=k->k<=ops.size->sh=qS D 0->Γ=lx::fH D 0->(∀vs,b vs=cV ops vs D 0 a0)->ops.toList.drop k=rest->
 ∃E:List eF,(D++E).length=ops.size/\(∀j o d,E[j]?=some d->ops[k+j]?=some o->GR P ops aW w0 S a0 lx (D++E.take j) (k+j) o d)/\
  ∀vs w,af aW w0 w->S w->(∀p,((qS (D++E) 0).all λs=> !s.eats.contains p)=true->iP (lx::fH (D++E) 0) p vs w)->Q .normal (cV ops vs (D++E) 0 a0) w:=by
 have go:∀(o:Oper)(rest:List Oper)(D:List eF)(d:eF)(b:bY->Act),ops.toList.drop D.length=o::rest->(∀vs,b vs=cV ops vs D 0 a0)->GR P ops aW w0 S a0 lx D D.length o d->
  (∀D',D'=D++[d]->(∀vs,(b vs).put o.dst (d.val D.length vs)=cV ops vs D' 0 a0)->D.length+1<=ops.size->ops.toList.drop (D.length+1)=rest->∃E:List eF,(D'++E).length=ops.size/\(∀j o d,E[j]?=some d->ops[D.length+1+j]?=some o->GR P ops aW w0 S a0 lx (D'++E.take j) (D.length+1+j) o d)/\
   ∀vs w,af aW w0 w->S w->(∀p,((qS (D'++E) 0).all λs=> !s.eats.contains p)=true->iP (lx::fH (D'++E) 0) p vs w)->Q .normal (cV ops vs (D'++E) 0 a0) w)->
  ∃E:List eF,(D++E).length=ops.size/\(∀j o d,E[j]?=some d->ops[D.length+j]?=some o->GR P ops aW w0 S a0 lx (D++E.take j) (D.length+j) o d)/\
   ∀vs w,af aW w0 w->S w->(∀p,((qS (D++E) 0).all λs=> !s.eats.contains p)=true->iP (lx::fH (D++E) 0) p vs w)->Q .normal (cV ops vs (D++E) 0 a0) w:=by
  intro o rest D d b hr hb hA ih;have ho:ops.toList[D.length]?=some o:=by
   have:=congrArg List.head? hr
   rwa[List.head?_drop,List.head?_cons] at this
  have ho':ops[D.length]?=some o:=by simpa using ho
  obtain⟨E,h1,h2,h3⟩:=ih _ rfl (λvs=>by
   rw[apq,<- hb,dV];show _=(b vs).put (eW ops D.length) _;rw[eW,ho'];rfl) (aB ho') (by rw[<- List.drop_drop,hr];rfl)
  refine⟨d::E,by simpa using h1,λj o' d' hj kr=>?_,?_⟩
  .cases j with
   |zero=>
    obtain rfl:d=d':=by simpa using hj
    rw[Nat.add_zero] at kr|-;rw[ho'] at kr;injection kr with kr;subst kr;rw[List.take_zero,List.append_nil];exact hA
   |succ j=>
    have:=h2 j o' d' (by simpa using hj) (by rw[<- kr];congr 1;omega);rw[List.take_succ_cons];rw[show D.length+(j+1)=D.length+1+j by omega]
    rwa[jg] at this
  .intro vs w hk hS hF;have e:D++d::E=D++[d]++E:=by rw[jg];rfl
   rw[e] at hF|-;exact h3 vs w hk hS hF
 induction h with
 |done h=>
  rintro D rfl bS rfl rfl hb hr;refine⟨[],?_,λj o d hj=>by simp at hj,λvs w hk hS hF=>?_⟩
  .have h1:ops.toList.length<=D.length:=List.drop_eq_nil_iff.1 hr;rw[Array.length_toList] at h1;rw[List.append_nil];omega
  .rw[List.append_nil] at hF|-;rw[<- hb];exact h vs w hk hS hF
 | @val o rest k sh Γ b v uses hc h hr ih=>
  rintro D rfl bS rfl rfl hb oG;refine go o rest D (.bL v uses) b oG hb ⟨hc,λvs w hk hS hF=>?_⟩ ?_
  .rw[<- hb];exact h vs w hk hS hF
  .rintro D' rfl hb' hle hr';exact ih (D++[eF.bL v uses]) (by simp) hle (by rw[Pi,dV];rfl) (by rw[Ep];simp[fH]) (λvs=>hb' vs) hr'
 | @op o rest k sh Γ b F own uses eats hc hd hs h hr ih=>
  rintro D rfl bS rfl rfl hb oG;refine go o rest D (.cG F own uses eats) b oG hb ⟨hc,hd,hs,λvs w hk hS hF=>?_⟩ ?_
  .rw[<- hb];exact h vs w hk hS hF
  .rintro D' rfl hb' hle hr';exact ih (D++[eF.cG F own uses eats]) (by simp) hle (by rw[Pi,dV];rfl) (by rw[Ep];simp[fH]) (λvs=>hb' vs) hr'
theorem T4{sh:List Shape}{k p:Nat}{uses eats:List Nat}(h:wj ops sh k uses eats=true)(hp:p∈uses):(ops.size<=p\/Pre ops p k)/\∀s∈sh,p∉s.eats:=by
 simp only[wj,ij,List.all_eq_true] at h;have h1:=h.1 p hp;simp only[Bool.or_eq_true] at h1;refine⟨h1.1.imp (λh=>Nat.le_of_ble_eq_true h) v8,λs hs hm=>?_⟩;have:=h1.2 s hs;simp[hm] at this
theorem Vz{sh:List Shape}{k p:Nat}{uses eats:List Nat}(h:wj ops sh k uses eats=true)(hp:p∈eats):p∈uses/\∀s∈sh,p∈s.uses->Pre ops s.idx k:=by
 simp only[wj,ij,List.all_eq_true] at h;have h1:=h.2 p hp;refine⟨by simpa using h1.1,λs hs hm=>?_⟩;have:=h1.2 s hs;simp only[Bool.or_eq_true,Bool.not_eq_true'] at this;rcases this with h'|h'
 .rw[List.contains_eq_mem] at h';simp[hm] at h'
 .exact v8 h'
theorem Lp{s:Shape} :∀(D:List eF)(k:Nat),s∈qS D k↔∃(j:Nat)(d:eF),D[j]?=some d/\s=d.sh (k+j)
 | [],k=>by simp[qS]
 |d::r,k=>by
  rw[qS,List.mem_cons,Lp r (k+1)];constructor
  .rintro (rfl|⟨j,d',hj,rfl⟩);exact⟨0,d,rfl,rfl⟩
   .exact⟨j+1,d',by simpa using hj,by rw[Nat.add_assoc k 1 j,Nat.add_comm 1 j]⟩
  .rintro⟨j,d',hj,rfl⟩;cases j with
   |zero=>left;simp at hj;rw[hj];rfl
   |succ j=>right;exact⟨j,d',by simpa using hj,by rw[Nat.add_assoc k 1 j,Nat.add_comm 1 j]⟩
section
variable{a0:Act}{gC:World->Prop}
def lx(ops:Array Oper)(aW:Nat->Prop)(gC:World->Prop):j6:=⟨ops.size,λ_=>gC,λ_=>aW⟩
def sK(ops:Array Oper)(gC:World->Prop)(D:List eF)(p:Nat)(vs:bY)(w:World):Prop:=if p=ops.size then gC w else∀d,D[p]?=some d->d.F vs w
def nD(ops:Array Oper)(aW:Nat->Prop)(D:List eF)(p:Nat)(vs:bY)(g:Nat):Prop:=if p=ops.size then aW g else∃d,D[p]?=some d/\d.own vs g
theorem VA(D:List eF)(p:Nat)(vs:bY)(w:World):iP (lx ops aW gC::fH D 0) p vs w↔sK ops gC D p vs w:=by
 unfold sK;show(bif Nat.beq ops.size p then gC w else iP (fH D 0) p vs w)↔_;cases hb:Nat.beq ops.size p
 .rw[if_neg (λe=>by rw[e,Nat.beq_refl] at hb;cases hb)];simpa using Vv vs w p D 0 (Nat.zero_le _)
 .rw[if_pos (Nat.eq_of_beq_eq_true hb).symm];rfl
theorem N7(D:List eF)(p:Nat)(vs:bY)(g:Nat):jt (lx ops aW gC::fH D 0) p vs g↔nD ops aW D p vs g:=by
 unfold nD;show(bif Nat.beq ops.size p then aW g else jt (fH D 0) p vs g)↔_;cases hb:Nat.beq ops.size p
 .rw[if_neg (λe=>by rw[e,Nat.beq_refl] at hb;cases hb)];simpa using Vw vs g p D 0 (Nat.zero_le _)
 .rw[if_pos (Nat.eq_of_beq_eq_true hb).symm];rfl
structure Inv(ops:Array Oper)(aW:Nat->Prop)(w0:World)(a0:Act)(gC:World->Prop)(D:List eF)(listed:Array Bool)(a:Act)(w:World)(vs:bY):Prop where
 size:listed.size=ops.size
 down:∀i p,listed.getD i false=true->Pre ops p i->listed.getD p false=true
 keeps:af aW w0 w
 defers:a.defers=a0.defers
 mW:a.tmps.size=a0.tmps.size
 slot:∀i t d,listed.getD i false=true->eW ops i=some t->t<a0.tmps.size->D[i]?=some d->a.tmps[t]?=some (d.val i vs)
 other:∀t,(∀i,listed.getD i false=true->eW ops i≠some t)->a.tmps[t]?=a0.tmps[t]?
 fact:∀p,(ops.size<=p\/listed.getD p false=true)->(∀j d,D[j]?=some d->p∈d.eats->listed.getD j false=false)->
  sK ops gC D p vs w/\∀g,nD ops aW D p vs g->g<w.heap.size/\¬(g<w0.heap.size/\¬aW g)
 Pn:∀p q,(ops.size<=p\/listed.getD p false=true)->(∀j d,D[j]?=some d->p∈d.eats->listed.getD j false=false)->
  (ops.size<=q\/listed.getD q false=true)->(∀j d,D[j]?=some d->q∈d.eats->listed.getD j false=false)->p≠q->∀g,nD ops aW D p vs g->¬nD ops aW D q vs g
theorem uR{listed:Array Bool}{i j:Nat}(h:(listed.setIfInBounds i true).getD j false=true):j=i\/listed.getD j false=true:=by
 by_cases hij:i=j;exact .inl hij.symm
 .rw[getD_set_ne false hij] at h;exact .inr h
theorem T7{listed:Array Bool}{i j:Nat}(h:(listed.setIfInBounds i true).getD j false=false):listed.getD j false=false:=by
 cases hj:listed.getD j false;rfl
 .rw[getD_set_true hj] at h;exact h
theorem Inv.step{D:List eF}(hg:qU ops=true)(hX:∀g,aW g->g<w0.heap.size)(apr:∀w w',gC w->qQ (λg=>(g<w0.heap.size/\¬aW g)\/aW g) w w'->gC w')(hS:∀w,af aW w0 w->S w)(hD:D.length=ops.size)(hA:∀j o d,D[j]?=some d->ops[j]?=some o->GR P ops aW w0 S a0 (lx ops aW gC) (D.take j) j o d){listed:Array Bool}{a:Act}{w:World}{vs:bY}(hI:Inv ops aW w0 a0 gC D listed a w vs){i:Nat}(hi:i∈Region.ready .any ops listed):
 wpOp P ops Q i (λa' w'=>∃vs',Inv ops aW w0 a0 gC D (listed.setIfInBounds i true) a' w' vs') a w:=by
 simp only[qU,ij] at hg;obtain⟨⟨⟨hsel,xM⟩,hdist⟩,yK⟩:=hg;obtain⟨hun,o,ho,wl⟩:=mem_ready.1 hi;have hilt:i<ops.size:=aB ho;have lY:listed.getD i false=false:=by
  have:i<listed.size:=by rw[hI.size];exact hilt
  simp only[Array.getD_eq_getD_getElem?,mV this] at hun|-;exact hun
 have hpre:∀p,Pre ops p i->listed.getD p false=true:=by
  intro p hp;cases hp with
  |edge ho' he hb=>rw[ho] at ho';injection ho' with ho';subst ho';exact wl _ he hb
  |more ho' he hb hp=>rw[ho] at ho';injection ho' with ho';subst ho';exact hI.down _ _ (wl _ he hb) hp
 obtain⟨d,hd⟩:∃d,D[i]?=some d:=⟨_,dh (by rw[hD];exact hilt)⟩
 have oH:=hA i o d hd ho;have rI:eW ops i=o.dst:=by rw[eW,ho];rfl
 have wm:∀t,t∈o.looksAt ops->a.tmps[t]?=(cV ops vs (D.take i) 0 a0).tmps[t]?:=by
  intro t ht;by_cases hex:∃j,eW ops j=some t
  .obtain⟨j,hj⟩:=hex;have wn:∀j',eW ops j'=some t->j'=j:=λj' h=>rH hdist _ _ _ h hj
   have later:listed.getD j false=false->i<=j->a.tmps[t]?=(cV ops vs (D.take i) 0 a0).tmps[t]?:=λhl hij=>by
    rw[hI.other t (λj' h1 h2=>by rw[wn j' h2,hl] at h1;cases h1),tU ops vs t _ _ _ (λj' _ h2 h3=>by
     have:=wn j' h3;rw[kT] at h2;omega)]
   rcases Ll xM ho ht hj with rfl|⟨hlt,hp⟩|⟨hlt,hp⟩
   .exact later lY (aZ _)
   .obtain⟨dj,hdj⟩:∃d,D[j]?=some d:=⟨_,dh (by rw[hD];omega)⟩
    by_cases hts:t<a0.tmps.size
    .rw[hI.slot j t dj (hpre _ hp) hj hts hdj];rw[Ag ops vs (λi j t=>rH hdist i j t) t j hj dj (D.take i) 0 a0 (Nat.zero_le _) (by rw[Nat.sub_zero,List.getElem?_take,if_pos hlt,hdj]) hts]
    .have od:a0.tmps.size<=t:=Nat.le_of_not_lt hts;rw[pv (by rw[hI.mW];exact od),pv (by rw[uQ];exact od)]
   .refine later ?_ (by omega);cases hl:listed.getD j false;rfl
    .have:=hI.down _ _ hl hp;rw[lY] at this;cases this
  .rw[hI.other t (λj h1 h2=>hex ⟨j,h2⟩),tU ops vs t _ _ _ (λj _ _ h3=>hex ⟨j,h3⟩)]
 have hsize:a.tmps.size=(cV ops vs (D.take i) 0 a0).tmps.size:=by rw[uQ,hI.mW]
 have Ah:execOp a.eval o=execOp (cV ops vs (D.take i) 0 a0).eval o:=Ln (λcs b=>Region.noSelect_spec hsel i o cs b ho) wm;have xN:=apw wm;have VC:∀uses eats,wj ops (qS (D.take i) 0) i uses eats=true->d.uses=uses->∀p∈uses,(ops.size<=p\/listed.getD p false=true)/\(∀j dj,D[j]?=some dj->p∈dj.eats->listed.getD j false=false):=by
  intro uses eats hc hu p hp;obtain⟨h1,h2⟩:=T4 hc hp;refine⟨h1.imp id (hpre p),λj dj hj hm=>?_⟩;rcases Nat.lt_trichotomy j i with hlt|rfl|hlt
  .exact absurd hm (h2 (dj.sh (0+j)) ((Lp _ _).2 ⟨j,dj,by rw[List.getElem?_take,if_pos hlt,hj],rfl⟩))
  .exact lY
  .obtain⟨oj,kr⟩:∃oj,ops[j]?=some oj:=⟨_,mV (by have:=(gM hj);omega)⟩
   have Po:∃u,wj ops (qS (D.take j) 0) j u dj.eats=true:=by
    have:=hA j oj dj hj kr;cases dj with
    |bL v u=>exact⟨u,this.1⟩
    |cG F own u e=>exact⟨u,this.1⟩
   obtain⟨u,Po⟩:=Po;have h3:=(Vz Po hm).2 (d.sh (0+i)) ((Lp _ _).2 ⟨i,d,by rw[List.getElem?_take,if_pos hlt,hd],rfl⟩) (by show p∈d.uses;rw[hu];exact hp);have xO:Pre ops i j:=by have e:(d.sh (0+i)).idx=i:=dV i;rwa[e] at h3
   cases hl:listed.getD j false;rfl
   .have:=hI.down _ _ hl xO;rw[lY] at this;cases this
 have hfull:∀(p:Nat)(vs:bY)(w:World),sK ops gC D p vs w->iP (lx ops aW gC::fH (D.take i) 0) p vs w:=λp vs w h=>by
  have:=(VA (aW:=aW) D p vs w).2 h;have e:fH D 0=fH (D.take i) 0++fH (D.drop i) (0+(D.take i).length):=by rw[<- Ep,List.take_append_drop]
  rw[e,<- List.cons_append] at this;exact Vt _ _ _ _ _ this
 have VD:∀(p:Nat)(vs:bY)(g:Nat),jt (lx ops aW gC::fH (D.take i) 0) p vs g->nD ops aW D p vs g:=λp vs g h=>by
  rw[<- N7 (gC:=gC)];have e:fH D 0=fH (D.take i) 0++fH (D.drop i) (0+(D.take i).length):=by rw[<- Ep,List.take_append_drop]
  rw[e,<- List.cons_append];exact Vu _ _ _ _ _ h
 have T8:∀v p,p≠i->(ops.size<=p\/listed.getD p false=true)->∀w,sK ops gC D p vs w->sK ops gC D p (fU vs i v) w:=by
  intro v p hpi dJ w h;unfold sK at h|-;split
  .rename_i e;rw[if_pos e] at h;exact h
  .rename_i e;rw[if_neg e] at h;intro dp hdp;have GU:p<ops.size:=by have:=(gM hdp);omega
   have hl:=dJ.resolve_left (by omega);have h1:=h dp hdp;cases dp with
   |bL v u=>trivial
   |cG F own u e=>
    have hq:=(hA p _ _ hdp (mV GU)).2.1 vs (fU vs i v) (λj hj=>(jQ vs v (by
     rintro rfl;rcases hj with rfl|hj
     .exact hpi rfl
     .have:=hI.down _ _ hl (v8 hj);rw[lY] at this;cases this)).symm)
    show F (fU vs i v) w;rw[<- hq.1];exact h1
 have Es:∀v p,p≠i->(ops.size<=p\/listed.getD p false=true)->∀g,nD ops aW D p (fU vs i v) g->nD ops aW D p vs g:=by
  intro v p hpi dJ g h;unfold nD at h|-;split
  .rename_i e;rw[if_pos e] at h;exact h
  .rename_i e;rw[if_neg e] at h;obtain⟨dp,hdp,h1⟩:=h;have GU:p<ops.size:=by have:=(gM hdp);omega
   have hl:=dJ.resolve_left (by omega);refine⟨dp,hdp,?_⟩;cases dp with
   |bL v u=>exact h1
   |cG F own u e=>
    have hq:=(hA p _ _ hdp (mV GU)).2.1 vs (fU vs i v) (λj hj=>(jQ vs v (by
     rintro rfl;rcases hj with rfl|hj
     .exact hpi rfl
     .have:=hI.down _ _ hl (v8 hj);rw[lY] at this;cases this)).symm)
    show own vs g;rw[hq.2];exact h1
 have tV:∀v w',d.val i (fU vs i v)=v->(d.F (fU vs i v) w')->(∀p∈d.eats,p∈d.uses)->(∀p∈d.uses,(ops.size<=p\/listed.getD p false=true)/\(∀j dj,D[j]?=some dj->p∈dj.eats->listed.getD j false=false))->
  af (λg=>∃p∈d.eats,nD ops aW D p vs g) w w'->(∀g,d.own (fU vs i v) g->g<w'.heap.size/\(w.heap.size<=g\/∃p∈d.eats,nD ops aW D p vs g))->
  ∃vs',Inv ops aW w0 a0 gC D (listed.setIfInBounds i true) (a.put o.dst v) w' vs':=by
  intro v w' hval hF Pp hal hK hown;have Pq:∀g,(g<w0.heap.size/\¬aW g)->¬∃p∈d.eats,nD ops aW D p vs g:=λg hold ⟨p,hp,hg⟩=>by
   have:=hal p (Pp p hp);exact((hI.fact p this.1 this.2).2 g hg).2 hold
  have Et:w0.heap.size<=w.heap.size:=hI.keeps.size;have live':∀p,(∀j dj,D[j]?=some dj->p∈dj.eats->(listed.setIfInBounds i true).getD j false=false)->(∀j dj,D[j]?=some dj->p∈dj.eats->listed.getD j false=false)/\p∉d.eats:=λp h=>by
   refine⟨λj dj hj hm=>T7 (h j dj hj hm),λhm=>?_⟩;have:=h i d hd hm;have hlt:i<listed.size:=by rw[hI.size];exact hilt
   simp[hlt] at this
  refine⟨fU vs i v,⟨by simpa using hI.size,?_,?_,by rw[put_defers];exact hI.defers,by rw[Er];exact hI.mW,?_,?_,?_,?_⟩⟩
  .intro j p hj hp;rcases uR hj with rfl|hj
   .exact getD_set_true (hpre p hp)
   .exact getD_set_true (hI.down _ _ hj hp)
  .refine⟨hK.os.trans hI.keeps.os,hK.tape.trans hI.keeps.tape,hK.output.trans hI.keeps.output,bQ Et hK.size,λg eG eH=>?_⟩;rw[hK.block g (by omega) (Pq g ⟨eG,eH⟩),hI.keeps.block g eG eH]
  .intro j t dj hj hjt hts hdj;by_cases hji:j=i
   .subst hji;rw[hd] at hdj;injection hdj with hdj;subst hdj;rw[<- rI,hjt,Ch _ _ _ (by rw[hI.mW];exact hts),hval]
   .rcases uR hj with rfl|hj
    .exact absurd rfl hji
    .rw[yH _ _ _ _ (λe=>hji (rH hdist j i t hjt (by rw[rI,e]))),hI.slot j t dj hj hjt hts hdj];cases dj with
     |bL v u=>rfl
     |cG F own u e=>show some (vs j)=some (fU vs i v j);rw[jQ vs v hji]
  .intro t ht;have yL:o.dst≠some t:=by
    rw[<- rI];exact ht i (by
     have hlt:i<listed.size:=by rw[hI.size];exact hilt
     simp[hlt])
   rw[yH _ _ _ _ yL,hI.other t (λj hj=>ht j (getD_set_true hj))]
  .intro p dJ Ps;obtain⟨hlv,hne⟩:=live' p Ps;by_cases hpi:p=i
   .subst hpi;have mX:¬p=ops.size:=by omega
    constructor
    .unfold sK;rw[if_neg mX];intro dp hdp;rw[hd] at hdp;injection hdp with hdp;subst hdp;exact hF
    .intro g hg;unfold nD at hg;rw[if_neg mX] at hg;obtain⟨dp,hdp,hg⟩:=hg;rw[hd] at hdp;injection hdp with hdp;subst hdp;obtain⟨h1,h2⟩:=hown g hg;refine⟨h1,?_⟩;rcases h2 with h2|⟨q,hq,h2⟩
     .rintro⟨h3,_⟩;omega
     .exact λhold=>Pq g hold ⟨q,hq,h2⟩
   .have xP:ops.size<=p\/listed.getD p false=true:=dJ.imp id λh=>(uR h).resolve_left hpi
    obtain⟨Ai,hop⟩:=hI.fact p xP hlv;have hsame:∀g,g<w.heap.size->((g<w0.heap.size/\¬aW g)\/nD ops aW D p vs g)->w'.heap[g]?=w.heap[g]?:=λg eG gZ=>hK.block g eG (by
     rcases gZ with gZ|gZ
     .exact Pq g gZ
     .rintro⟨q,hq,eM⟩;have Ci:=hal q (Pp q hq);have hpq:p≠q:=by rintro rfl;exact hne hq
      exact hI.Pn p q xP hlv Ci.1 Ci.2 hpq g gZ eM)
    constructor
    .have h1:=T8 v p hpi xP w Ai;unfold sK at h1|-;split
     .rename_i e;rw[if_pos e] at h1;exact apr _ _ h1 ⟨hK.size,λg eG gZ=>hsame g eG (by
       rcases gZ with gZ|gZ
       .exact .inl gZ
       .exact .inr (by unfold nD;rw[if_pos e];exact gZ))⟩
     .rename_i e;rw[if_neg e] at h1;intro dp hdp;have GU:p<ops.size:=by have:=(gM hdp);omega
      have h2:=h1 dp hdp;cases dp with
      |bL v u=>trivial
      |cG F own u e'=>
       refine(hA p _ _ hdp (mV GU)).2.2.1 _ _ _ h2 ⟨hK.size,λg eG gZ=>hsame g eG ?_⟩;rcases gZ with gZ|gZ
       .exact .inl gZ
       .exact .inr (Es v p hpi xP g (by unfold nD;rw[if_neg e];exact⟨_,hdp,gZ⟩))
    .intro g hg;obtain⟨h1,h2⟩:=hop g (Es v p hpi xP g hg);exact⟨cg h1 hK.size,h2⟩
  .
   have hone:∀q,(ops.size<=q\/listed.getD q false=true)->(∀j dj,D[j]?=some dj->q∈dj.eats->listed.getD j false=false)->q∉d.eats->∀g,d.own (fU vs i v) g->¬nD ops aW D q vs g:=by
    intro q yM VE Cj g hg VF;rcases (hown g hg).2 with h2|⟨p,hp,h2⟩
    .have:=((hI.fact q yM VE).2 g VF).1;omega
    .have hpa:=hal p (Pp p hp);have Pu:q≠p:=by rintro rfl;exact Cj hp
     exact hI.Pn q p yM VE hpa.1 hpa.2 Pu g VF h2
   have hii:∀g,nD ops aW D i (fU vs i v) g->d.own (fU vs i v) g:=λg hg=>by
    unfold nD at hg;rw[if_neg (by omega)] at hg;obtain⟨dp,hdp,hg⟩:=hg;rw[hd] at hdp;injection hdp with hdp;subst hdp;exact hg
   intro p q dJ Ps yM T9 hpq g hp hq;obtain⟨hlp,L2⟩:=live' p Ps;obtain⟨VG,heq⟩:=live' q T9;by_cases hpi:p=i
   .subst hpi;have hqi:q≠p:=Ne.symm hpq;have GV:ops.size<=q\/listed.getD q false=true:=yM.imp id λh=>(uR h).resolve_left hqi
    exact hone q GV VG heq g (hii g hp) (Es v q hqi GV g hq)
   .have xP:ops.size<=p\/listed.getD p false=true:=dJ.imp id λh=>(uR h).resolve_left hpi
    by_cases hqi:q=i
    .subst hqi;exact hone p xP hlp L2 g (hii g hq) (Es v p hpi xP g hp)
    .have GV:ops.size<=q\/listed.getD q false=true:=yM.imp id λh=>(uR h).resolve_left hqi
     exact hI.Pn p q xP hlp GV VG hpq g (Es v p hpi xP g hp) (Es v q hqi GV g hq)
 have VH:=hS w hI.keeps;cases d with
 |bL v uses=>
  obtain⟨hc,hrun⟩:=oH;have hal:=VC uses [] hc rfl;have hr:=hrun vs w hI.keeps VH (λp hp=>hfull p vs w (hI.fact p (hal p hp).1 (hal p hp).2).1) (λa' w'=>∃v',a'=(cV ops vs (D.take i) 0 a0).put o.dst v'/\(v'=v/\af (λ_=>False) w w')) (λv w' h=>⟨v,rfl,h⟩);have fin:∀v' w',(v'=v/\af (λ_=>False) w w')->∃vs',Inv ops aW w0 a0 gC D (listed.setIfInBounds i true) (a.put o.dst v') w' vs':=λv' w' ⟨h1,h2⟩=>by
   subst h1;exact tV v' w' rfl trivial (by simp[eF.eats]) hal ⟨h2.os,h2.tape,h2.output,h2.size,λg eG _=>h2.block g eG id⟩ (λg hg=>hg.elim)
  unfold wpOp;simp only[ho];rw[xN];split
  .rename_i hw;rw[if_pos hw] at hr;refine .inl (GQ (Oper.wp_mono (λa' w' h=>?_) (wp_move hsize Ah hr)));obtain⟨v,rfl,h⟩:=h;exact fin v w' h
  .rename_i hw;rw[if_neg hw] at hr;obtain⟨v,hv,h⟩:=hr;rw[yJ hsize hv];exact fin v w h
 |cG F own uses eats=>
  obtain⟨hc,amo,aqb,hrun⟩:=oH;have hal:=VC uses eats hc rfl;have hr:=hrun vs w hI.keeps VH (λp hp=>hfull p vs w (hI.fact p (hal p hp).1 (hal p hp).2).1) (λa' w'=>∃v,a'=(cV ops vs (D.take i) 0 a0).put o.dst v/\(F (fU vs i v) w'/\af (λg=>∃p∈eats,jt (lx ops aW gC::fH (D.take i) 0) p vs g) w w'/\∀g,own (fU vs i v) g->g<w'.heap.size/\(w.heap.size<=g\/∃p∈eats,jt (lx ops aW gC::fH (D.take i) 0) p vs g))) (λv w' h=>⟨v,rfl,h⟩)
  have fin:∀v w',(F (fU vs i v) w'/\af (λg=>∃p∈eats,jt (lx ops aW gC::fH (D.take i) 0) p vs g) w w'/\∀g,own (fU vs i v) g->g<w'.heap.size/\(w.heap.size<=g\/∃p∈eats,jt (lx ops aW gC::fH (D.take i) 0) p vs g))->
   ∃vs',Inv ops aW w0 a0 gC D (listed.setIfInBounds i true) (a.put o.dst v) w' vs':=λv w' ⟨h1,h2,h3⟩=>
   tV v w' (eV vs i v) h1 (λp hp=>(Vz hc hp).1) hal
    ⟨h2.os,h2.tape,h2.output,h2.size,λg eG nE=>h2.block g eG (λ⟨p,hp,hg⟩=>nE ⟨p,hp,VD p vs g hg⟩)⟩
    (λg hg=>⟨(h3 g hg).1,(h3 g hg).2.imp id λ⟨p,hp,hg⟩=>⟨p,hp,VD p vs g hg⟩⟩)
  unfold wpOp;simp only[ho];rw[xN];split
  .rename_i hw;rw[if_pos hw] at hr;refine .inl (GQ (Oper.wp_mono (λa' w' h=>?_) (wp_move hsize Ah hr)));obtain⟨v,rfl,h⟩:=h;exact fin v w' h
  .rename_i hw;rw[if_neg hw] at hr;obtain⟨v,hv,h⟩:=hr;rw[yJ hsize hv];exact fin v w h
theorem Lq{I:Array Bool->Act->World->Prop}(hd:∀listed a w,I listed a w->Region.ready .any ops listed= []->Q .normal a w)(hs:∀listed a w i,I listed a w->i∈Region.ready .any ops listed->wpOp P ops Q i (λa' w'=>I (listed.setIfInBounds i true) a' w') a w)(hz:∀listed a w,I listed a w->listed.size=ops.size):
 ∀(fuel:Nat)(listed:Array Bool)(a:Act)(w:World),(listed.toList.countP (· ==false))<=fuel->I listed a w->wpAny P .any ops Q fuel listed a w
 |0,listed,a,w,hf,hI=>by
  have hr:Region.ready .any ops listed= []:=by
   apply List.eq_nil_iff_forall_not_mem.2;intro i hi;have h1:=(mem_ready.1 hi).1;have hlt:i<listed.size:=by
    rcases Nat.lt_or_ge i listed.size with h|h
    .exact h
    .simp[pv h] at h1
   have h2:=(List.countP_eq_zero.1 (Nat.le_zero.1 hf)) listed[i] (by simp);simp[hlt] at h1
   simp[h1] at h2
  exact⟨hr,hd _ _ _ hI hr⟩
 |fuel+1,listed,a,w,hf,hI=>by
  refine⟨λhr=>hd _ _ _ hI hr,λi hi=>wpOp_mono (λa' w' h=>Lq hd hs hz fuel _ a' w' ?_ h) (hs listed a w i hI hi)⟩;have h1:=(mem_ready.1 hi).1;have hlt:i<listed.size:=by
   rcases Nat.lt_or_ge i listed.size with h|h
   .exact h
   .simp[pv h] at h1
  simp[hlt] at h1
  have h2:(listed.setIfInBounds i true).toList=listed.toList.set i true:=by simp[Array.toList_setIfInBounds]
  rw[h2,List.countP_set (by simpa using hlt)];simp[h1]
  have h3:0<listed.toList.countP (λx=>x==false):=List.countP_pos_iff.2 ⟨listed[i],by simp,by simp[h1]⟩;simp at h3 hf|-;omega
theorem VI{id:Nat}{w:World}(S:World->Prop)(aW:Nat->Prop)(gC:World->Prop)(hm:P.follows .mixedOrders=true)(hg:qU ops=true)(hX:∀g,aW g->g<w.heap.size)(hF:gC w.drew)(apr:∀w1 w2,gC w1->qQ (λg=>(g<w.heap.size/\¬aW g)\/aW g) w1 w2->gC w2)(hS:∀w1,af aW w.drew w1->S w1)(h:wk P ops Q aW w.drew S ops.toList 0 [] [lx ops aW gC] (λ_=>a0)):(Code.region id ops true).wp P Q a0 w:=by
 obtain⟨D,hD,hA,aS⟩:=h.data [] rfl (Nat.zero_le _) rfl rfl (λ_=>rfl) rfl;rw[gY] at hD;simp only[gY,dV] at hA aS;refine wp_region_any hm ?_;refine Lq (I:=λlisted a w1=>∃vs,Inv ops aW w.drew a0 gC D listed a w1 vs) ?_ ?_ ?_ _ _ _ _ ?_ ?_
 .rintro listed a w1⟨vs,hI⟩ hr;have hg':=hg;simp only[qU,ij] at hg';obtain⟨⟨⟨hsel,xM⟩,hdist⟩,yK⟩:=hg';have hall:=Pl yK hI.size hr;have ha:a=cV ops vs D 0 a0:=by
   have h1:a.tmps=(cV ops vs D 0 a0).tmps:=by
    apply Array.ext_getElem?;intro t;by_cases hex:∃j,eW ops j=some t
    .obtain⟨j,hj⟩:=hex;obtain⟨dj,hdj⟩:∃d,D[j]?=some d:=⟨_,dh (by rw[hD];exact yI hj)⟩
     by_cases hts:t<a0.tmps.size
     .rw[hI.slot j t dj (hall j (yI hj)) hj hts hdj,Ag ops vs (λi j t=>rH hdist i j t) t j hj dj D 0 a0 (Nat.zero_le _) (by rw[Nat.sub_zero,hdj]) hts]
     .have od:a0.tmps.size<=t:=Nat.le_of_not_lt hts;rw[pv (by rw[hI.mW];exact od),pv (by rw[uQ];exact od)]
    .rw[hI.other t (λj _ h2=>hex ⟨j,h2⟩),tU ops vs t _ _ _ (λj _ _ h3=>hex ⟨j,h3⟩)]
   have h2:a.defers=(cV ops vs D 0 a0).defers:=by rw[Lk,hI.defers]
   cases a;generalize cV ops vs D 0 a0=b at *;cases b;simp only at h1 h2;rw[h1,h2]
  rw[ha];refine aS vs w1 hI.keeps (hS _ hI.keeps) (λp hp=>?_);rw[VA];by_cases mX:p=ops.size\/p<ops.size
  .refine(hI.fact p ?_ ?_).1
   .exact mX.imp (λh=>by omega) (hall p)
   .intro j d hj hm;have h1:=List.all_eq_true.1 hp (d.sh (0+j)) ((Lp _ _).2 ⟨j,d,hj,rfl⟩);have h2:(!d.eats.contains p)=true:=h1;rw[List.contains_eq_mem] at h2;simp[hm] at h2
  .unfold sK;rw[if_neg (λe=>mX (.inl e))];intro d hd;have:=(gM hd);exact absurd (.inr (by omega)) mX
 .rintro listed a w1 i⟨vs,hI⟩ hi;exact Inv.step (w0:=w.drew) hg hX apr hS hD (λj o d hd ho=>hA j o d hd ho) hI hi
 .rintro listed a w1⟨vs,hI⟩;exact hI.size
 .exact bQ List.countP_le_length (by simp)
 .have hz:∀i,(Array.replicate ops.size false).getD i false=false:=λi=>by
   simp only[Array.getD_eq_getD_getElem?,Array.getElem?_replicate];split <;>rfl
  have hno:∀i,¬(Array.replicate ops.size false).getD i false=true:=λi h=>by rw[hz] at h;cases h
  refine⟨λ_=>undef,⟨by simp,λi p h=>absurd h (hno i),af.refl _ _,rfl,rfl,λi t d h=>absurd h (hno i),λt _=>rfl,?_,?_⟩⟩
  .intro p hp _;have hp':ops.size<=p:=hp.resolve_right (hno p);unfold sK nD;by_cases e:p=ops.size
   .rw[if_pos e];refine⟨hF,λg hg'=>?_⟩;rw[if_pos e] at hg';exact⟨hX g hg',λh=>h.2 hg'⟩
   .rw[if_neg e];refine⟨λd hd=>?_,λg hg'=>?_⟩
    .have:=(gM hd);omega
    .rw[if_neg e] at hg';obtain⟨d,hd,_⟩:=hg';have:=(gM hd);omega
  .intro p q hp _ hq _ hpq g h1 h2;have hp':ops.size<=p:=hp.resolve_right (hno p);have qV:ops.size<=q:=hq.resolve_right (hno q);unfold nD at h1 h2;by_cases e:p=ops.size
   .rw[if_neg (λe'=>hpq (by rw[e,e']))] at h2;obtain⟨d,hd,_⟩:=h2;have:=(gM hd);omega
   .rw[if_neg e] at h1;obtain⟨d,hd,_⟩:=h1;have:=(gM hd);omega
end
end
structure Out where
 idx:Nat
 uses:List Nat
 eats:List Nat
 gs:Option (Nat×Tmp)
 deps:List Nat:= []
def Out.sh(x:Out):Shape:=⟨x.idx,x.uses,x.eats⟩
def yN(ops:Array Oper):Option (Nat×Tmp)->Bool
 |none=>true
 |some (g,t)=>eW ops g==some t
def M5(sh:List Shape)(uses:List Nat):Bool:=uses.all λp=>sh.all λs=> !s.eats.contains p
def Cm(ops:Array Oper):List Shape->List Out->Bool
 |_,[]=>true
 |sh,x::r=>(bif Nat.beq x.idx ops.size then M5 sh x.uses else wj ops sh x.idx x.uses x.eats)&&(yN ops x.gs&&x.deps.all (sJ ops x.idx))&&Cm ops (sh++[x.sh]) r
def Want(o:Oper)(gs:Option (Nat×Tmp))(a:Act)(x:Bool):Prop:=
 match o.guard,gs with
 |none,none=>x=true
 |some (g,want),some (g',t)=>g=g'/\∃y,a.tmps[t]?=some (.bool y)/\x=(y==want)
 |_,_=>False
def rJ(o:Oper)(gs:Option (Nat×Tmp))(a:Act):Prop:=
 match o.guard,gs with
 |some (g,_),some (g',t)=>g=g'/\a.tmps[t]?=some undef
 |_,_=>False
theorem Pv{ops:Array Oper}{o:Oper}{gs:Option (Nat×Tmp)}{a:Act}{x:Bool}(h:Want o gs a x)(hc:yN ops gs=true):Region.wanted o (yielded ops a.tmps)=x:=by
 unfold Want at h;unfold Region.wanted;cases hg:o.guard with
 |none=>
  rw[hg] at h;cases gs with
  |none=>exact h.symm
  |some p=>exact h.elim
 |some p=>
  obtain⟨g,want⟩:=p;rw[hg] at h;cases gs with
  |none=>exact h.elim
  |some q=>
   obtain⟨g',t⟩:=q;obtain⟨rfl,y,hy,rfl⟩:=h;have hd:eW ops g=some t:=by simpa[yN] using hc
   unfold eW at hd;have Pw:yielded ops a.tmps g=some y:=by
    unfold yielded;rw[hd];simp only[Option.bind_some,hy]
   show(yielded ops a.tmps g==some want)=_;rw[Pw];cases y <;>cases want <;>rfl
theorem VJ{ops:Array Oper}{o:Oper}{gs:Option (Nat×Tmp)}{a:Act}(h:rJ o gs a)(hc:yN ops gs=true):Region.wanted o (yielded ops a.tmps)=false:=by
 unfold rJ at h;unfold Region.wanted;cases hg:o.guard with
 |none=>
  rw[hg] at h;exact h.elim
 |some p=>
  obtain⟨g,want⟩:=p;rw[hg] at h;cases gs with
  |none=>exact h.elim
  |some q=>
   obtain⟨g',t⟩:=q;obtain⟨rfl,hy⟩:=h;have hd:eW ops g=some t:=by simpa[yN] using hc
   unfold eW at hd;have Pw:yielded ops a.tmps g=none:=by
    unfold yielded;rw[hd];simp only[Option.bind_some,hy];rfl
   show(yielded ops a.tmps g==some want)=_;rw[Pw];cases want <;>rfl
section
variable(P:Program)(aF:Act->World->Prop)(aW:Nat->Prop)(w0:World)(S:World->Prop)
inductive aj:List Oper->Nat->List j6->(bY->Act)->List Out->Prop
 |done {k:Nat} {Γ:List j6} {b:bY->Act} (live:List Nat)
  (h:∀vs w,af aW w0 w->S w->(∀p∈live,iP Γ p vs w)->aF (b vs) w):aj [] k Γ b [⟨k,live,[],none,[]⟩]
 |val {o:Oper} {rest:List Oper} {k:Nat} {Γ:List j6} {b:bY->Act} {out:List Out} (v:Value) (uses:List Nat) (gs:Option (Nat×Tmp))
  (h:∀vs w,af aW w0 w->S w->(∀p∈uses,iP Γ p vs w)->∃x,(Want o gs (b vs) x\/(x=false/\rJ o gs (b vs)))/\∀K:Act->World->Prop,Shut (∀w',Below w.heap.size w w'->K ((b vs).put o.dst v) w')->
   if x=true then o.wp P (b vs) w K (λ_ _ _=>False) else K ((b vs).put o.dst undef) w)
  (hr:aj rest (k+1) Γ (λvs=>(b vs).put o.dst v) out):aj (o::rest) k Γ b (⟨k,uses,[],gs,[]⟩::out)
 |op {o:Oper} {rest:List Oper} {k:Nat} {Γ:List j6} {b:bY->Act} {out:List Out} (F:bY->World->Prop) (own:bY->Nat->Prop) (uses eats deps:List Nat) (gs:Option (Nat×Tmp))
  (hd:∀vs vs':bY,(∀i∈k::deps,vs i=vs' i)->F vs=F vs'/\own vs=own vs')
  (hs:∀vs w w',F vs w->qQ (λg=>(g<w0.heap.size/\¬aW g)\/own vs g) w w'->F vs w')
  (h:∀vs w,af aW w0 w->S w->(∀p∈uses,iP Γ p vs w)->∃x,Want o gs (b vs) x/\∀K:Act->World->Prop,Shut (∀v w',(F (fU vs k v) w'/\af (λg=>∃p∈eats,jt Γ p vs g) w w'/\∀g,own (fU vs k v) g->g<w'.heap.size/\(w.heap.size<=g\/∃p∈eats,jt Γ p vs g))->K ((b vs).put o.dst v) w')->
   if x=true then o.wp P (b vs) w K (λ_ _ _=>False) else K ((b vs).put o.dst undef) w)
  (hr:aj rest (k+1) (Γ++[⟨k,F,own⟩]) (λvs=>(b vs).put o.dst (vs k)) out):aj (o::rest) k Γ b (⟨k,uses,eats,gs,deps⟩::out)
end
theorem aj.VK{P:Program}{ops:Array Oper}{Q:Exit->Act->World->Prop}{aF:Act->World->Prop}{aW:Nat->Prop}{w0:World}{S:World->Prop}(hQ:∀a w,aF a w->Q .normal a w){rest:List Oper}{k:Nat}{Γ:List j6}{b:bY->Act}{out:List Out}(h:aj P aF aW w0 S rest k Γ b out):
 ∀(Δ:List j6),(∀p vs w,iP (Δ++Γ) p vs w->iP Γ p vs w)->(∀p vs g,jt Γ p vs g->jt (Δ++Γ) p vs g)->(∀e∈Δ,ops.size<=e.idx)->k+rest.length=ops.size->∀sh:List Shape,Cm ops sh out=true->wk P ops Q aW w0 S rest k sh (Δ++Γ) b:=by
 induction h with
 | @done k Γ b live h=>
  intro Δ hF df _ hkn sh hc;have hk:k=ops.size:=hkn;subst hk;simp only[Cm,ij,Nat.beq_refl,cond_true] at hc;refine .done λvs w hK hS hf=>hQ _ _ (h vs w hK hS λp hp=>hF _ _ _ (hf p ?_))
  exact List.all_eq_true.1 hc.1.1 p hp
 | @val o rest k Γ b out v uses gs h hr ih=>
  intro Δ hF df Lr hkn sh hc;have hkb:Nat.beq k ops.size=false:=by
   cases hb:Nat.beq k ops.size;rfl
   .have:=Nat.eq_of_beq_eq_true hb;rw[iu] at hkn;omega
  simp only[Cm,ij,hkb,cond_false] at hc;refine .val v uses hc.1.1 (λvs w hK hS hf=>?_) (ih Δ hF df Lr (by rw[iu] at hkn;omega) _ hc.2);obtain⟨x,hx,hw⟩:=h vs w hK hS (λp hp=>hF _ _ _ (hf p hp));intro K ah;have hx':Region.wanted o (yielded ops (b vs).tmps)=x:=by
   rcases hx with hx|⟨rfl,hx⟩
   .exact Pv hx hc.1.2.1
   .exact VJ hx hc.1.2.1
  rw[hx'];exact hw K (λw' hu=>ah v w' ⟨rfl,af.co hu⟩)
 | @op o rest k Γ b out F own uses eats deps gs hd hs h hr ih=>
  intro Δ hF df Lr hkn sh hc;have hkb:Nat.beq k ops.size=false:=by
   cases hb:Nat.beq k ops.size;rfl
   .have:=Nat.eq_of_beq_eq_true hb;rw[iu] at hkn;omega
  simp only[Cm,ij,hkb,cond_false] at hc;have hlt:k<ops.size:=by rw[iu] at hkn;omega
  have hne:∀e∈Δ,Nat.beq e.idx k=false:=λe he=>by
   cases hb:Nat.beq e.idx k;rfl
   .have:=Nat.eq_of_beq_eq_true hb;have:=Lr e he;omega
  have e1:(Δ++Γ)++[(⟨k,F,own⟩:j6)]=Δ++(Γ++[⟨k,F,own⟩]):=jg _ _ _;have amq:∀(Δ:List j6),(∀e∈Δ,Nat.beq e.idx k=false)->∀(Z:List j6)(vs:bY)(w:World),iP (Δ++Z) k vs w↔iP Z k vs w:=by
   intro Δ hne Z vs w;induction Δ with
   |nil=>rfl
   |cons e r ih2=>
    rw[List.cons_append,iP,hne e gN,cond_false];exact ih2 (λe he=>hne e (kS _ he))
  have hr':=ih Δ ?_ ?_ Lr (by rw[iu] at hkn;omega) _ hc.2
  .refine .op F own uses eats hc.1.1 (λvs vs' he=>hd vs vs' λi hi=>he i ?_) (λvs w w' hg hst=>hs _ _ _ hg hst) ?_ (by rw[e1];exact hr')
   .rcases List.mem_cons.1 hi with hi|hi
    .exact .inl hi
    .exact .inr (List.all_eq_true.1 hc.1.2.2 i hi)
   intro vs w hK hS hf K ah;obtain⟨x,hx,hw⟩:=h vs w hK hS (λp hp=>hF _ _ _ (hf p hp));rw[Pv hx hc.1.2.1];exact hw K (λv w' ⟨h1,h2,h3⟩=>ah v w' ⟨h1,⟨h2.os,h2.tape,h2.output,h2.size,λg eG nE=>h2.block g eG (λ⟨p,hp,hg⟩=>nE ⟨p,hp,df _ _ _ hg⟩)⟩,λg hg=>
    ⟨(h3 g hg).1,(h3 g hg).2.imp id λ⟨p,hp,hg⟩=>⟨p,hp,df _ _ _ hg⟩⟩⟩)
  .
   have split:∀(Γ:List j6)(p:Nat)(vs:bY)(w:World)(e:j6),iP (Γ++[e]) p vs w↔(iP Γ p vs w/\((∀x∈Γ,Nat.beq x.idx p=false)->Nat.beq e.idx p=true->e.F vs w)):=by
    intro Γ p vs w e;induction Γ with
    |nil=>simp only[gY,iP];cases Nat.beq e.idx p <;>simp
    |cons x r ih2=>
     simp only[List.cons_append,iP];cases hb:Nat.beq x.idx p
     .simp only[cond_false];rw[ih2];simp[hb]
     .simp only[cond_true];constructor
      .intro hx;exact⟨hx,λhall=>by have:=hall x gN;rw[hb] at this;cases this⟩
      .exact λhx=>hx.1
   intro p vs w hf;rw[<- e1] at hf;have h1:=(split (Δ++Γ) p vs w _).1 hf;refine(split Γ p vs w _).2 ⟨hF p vs w h1.1,λhall hb=>?_⟩;refine h1.2 (λx hx=>?_) hb;rcases List.mem_append.1 hx with hx|hx
   .have hb':k=p:=Nat.eq_of_beq_eq_true hb;rw[<- hb'];exact hne x hx
   .exact hall x hx
  .have split:∀(Γ:List j6)(p:Nat)(vs:bY)(g:Nat)(e:j6),jt (Γ++[e]) p vs g↔(jt Γ p vs g\/((∀x∈Γ,Nat.beq x.idx p=false)/\Nat.beq e.idx p=true/\e.own vs g)):=by
    intro Γ p vs g e;induction Γ with
    |nil=>simp only[gY,jt];cases Nat.beq e.idx p <;>simp
    |cons x r ih2=>
     simp only[List.cons_append,jt];cases hb:Nat.beq x.idx p
     .simp only[cond_false];rw[ih2];simp[hb]
     .simp only[cond_true];constructor
      .intro hx;exact .inl hx
      .rintro (hx|⟨hall,_⟩);exact hx
       .have:=hall x gN;rw[hb] at this;cases this
   intro p vs g hf;rw[<- e1];rcases (split Γ p vs g _).1 hf with h1|⟨h1,h2,h3⟩
   .exact(split (Δ++Γ) p vs g _).2 (.inl (df p vs g h1))
   .refine(split (Δ++Γ) p vs g _).2 (.inr ⟨λx hx=>?_,h2,h3⟩);rcases List.mem_append.1 hx with hx|hx
    .have hb':k=p:=Nat.eq_of_beq_eq_true h2;rw[<- hb'];exact hne x hx
    .exact h1 x hx
def qW(Γ:List j6):List Nat->bY->World->Prop
 | [],_,_=>True
 |p::r,vs,w=>iP Γ p vs w/\qW Γ r vs w
theorem qW.mk{Γ:List j6}{vs:bY}{w:World} :∀{l:List Nat},(∀p∈l,iP Γ p vs w)->qW Γ l vs w
 | [],_=>trivial
 |p::r,h=>⟨h p gN,qW.mk λq hq=>h q (kS _ hq)⟩
def ob(v:Value)(g:Nat):Prop:=match v with
 |.slice (some a) _ _=>a.block=g
 |.pointer (some a)=>a.block=g
 |_=>False
section
variable{P:Program}{aF:Act->World->Prop}{aW:Nat->Prop}{w0:World}{S:World->Prop}{o:Oper}{rest:List Oper}{k:Nat}{Γ:List j6}{b:bY->Act}{out:List Out}
theorem aj.fin(live:List Nat)(h:∀vs w,af aW w0 w->S w->qW Γ live vs w->aF (b vs) w):aj P aF aW w0 S [] k Γ b [⟨k,live,[],none,[]⟩]:=
 .done live λvs w hK hS hf=>h vs w hK hS (qW.mk hf)
theorem aj.ok{v:Value}(h:∀vs w,S w->(execOp (b vs).eval o).run P w= .ok (.value v) w)(hg:o.guard=none)(hr:aj P aF aW w0 S rest (k+1) Γ (λvs=>(b vs).put o.dst v) out):aj P aF aW w0 S (o::rest) k Γ b (⟨k,[],[],none,[]⟩::out):=
 .val v [] none (λvs w _ hS _=>⟨true,.inl (by simp only[Want,hg]),λK hK=>by
  rw[if_pos rfl,Oper.wp,h vs w hS];exact hK.out w (Below.refl _ _)⟩) hr
theorem aj.yO(uses:List Nat){v:Value}(h:∀vs w,S w->qW Γ uses vs w->(execOp (b vs).eval o).run P w= .ok (.value v) w)(hg:o.guard=none)(hr:aj P aF aW w0 S rest (k+1) Γ (λvs=>(b vs).put o.dst v) out):aj P aF aW w0 S (o::rest) k Γ b (⟨k,uses,[],none,[]⟩::out):=
 .val v uses none (λvs w _ hS hf=>⟨true,.inl (by simp only[Want,hg]),λK hK=>by
  rw[if_pos rfl,Oper.wp,h vs w hS (qW.mk hf)];exact hK.out w (Below.refl _ _)⟩) hr
theorem aj.eI{g t:Nat}{x:Bool}{v:Value}(h:∀vs w,S w->(execOp (b vs).eval o).run P w= .ok (.value v) w)(hg:o.guard=some (g,x))(ht:∀vs,(b vs).tmps[t]?=some (.bool x))(hr:aj P aF aW w0 S rest (k+1) Γ (λvs=>(b vs).put o.dst v) out):aj P aF aW w0 S (o::rest) k Γ b (⟨k,[],[],some (g,t),[]⟩::out):=
 .val v [] (some (g,t)) (λvs w _ hS _=>⟨true,.inl (by simp only[Want,hg];exact⟨trivial,x,ht vs,by cases x <;>rfl⟩),λK hK=>by
  rw[if_pos rfl,Oper.wp,h vs w hS];exact hK.out w (Below.refl _ _)⟩) hr
theorem aj.sL{g t:Nat}{x y:Bool}(hg:o.guard=some (g,x))(ht:∀vs,(b vs).tmps[t]?=some (.bool y))(hxy:(y==x)=false)(hr:aj P aF aW w0 S rest (k+1) Γ (λvs=>(b vs).put o.dst undef) out):aj P aF aW w0 S (o::rest) k Γ b (⟨k,[],[],some (g,t),[]⟩::out):=
 .val undef [] (some (g,t)) (λvs w _ hS _=>⟨false,.inl (by simp only[Want,hg];exact⟨trivial,y,ht vs,hxy.symm⟩),λK hK=>by
  rw[if_neg (by simp)];exact hK.out w (Below.refl _ _)⟩) hr
theorem aj.Px{g t:Nat}{x:Bool}(hg:o.guard=some (g,x))(ht:∀vs,(b vs).tmps[t]?=some undef)(hr:aj P aF aW w0 S rest (k+1) Γ (λvs=>(b vs).put o.dst undef) out):aj P aF aW w0 S (o::rest) k Γ b (⟨k,[],[],some (g,t),[]⟩::out):=
 .val undef [] (some (g,t)) (λvs w _ hS _=>⟨false,.inr ⟨rfl,by simp only[rJ,hg];exact⟨trivial,ht vs⟩⟩,λK hK=>by
  rw[if_neg (by simp)];exact hK.out w (Below.refl _ _)⟩) hr
theorem aj.call(v:Value)(uses:List Nat)(hg:o.guard=none)(h:∀vs w,af aW w0 w->S w->qW Γ uses vs w->∀K:Act->World->Prop,Shut (∀w',Below w.heap.size w w'->K ((b vs).put o.dst v) w')->o.wp P (b vs) w K (λ_ _ _=>False))(hr:aj P aF aW w0 S rest (k+1) Γ (λvs=>(b vs).put o.dst v) out):aj P aF aW w0 S (o::rest) k Γ b (⟨k,uses,[],none,[]⟩::out):=
 .val v uses none (λvs w hK hS hf=>⟨true,.inl (by simp only[Want,hg]),λK ah=>by
  rw[if_pos rfl];exact h vs w hK hS (qW.mk hf) K ah⟩) hr
theorem aj.p7{g t:Nat}{x:Bool}(v:Value)(uses:List Nat)(hg:o.guard=some (g,x))(ht:∀vs,(b vs).tmps[t]?=some (.bool x))(h:∀vs w,af aW w0 w->S w->qW Γ uses vs w->∀K:Act->World->Prop,Shut (∀w',Below w.heap.size w w'->K ((b vs).put o.dst v) w')->o.wp P (b vs) w K (λ_ _ _=>False))(hr:aj P aF aW w0 S rest (k+1) Γ (λvs=>(b vs).put o.dst v) out):aj P aF aW w0 S (o::rest) k Γ b (⟨k,uses,[],some (g,t),[]⟩::out):=
 .val v uses (some (g,t)) (λvs w hK hS hf=>⟨true,.inl (by simp only[Want,hg];exact⟨trivial,x,ht vs,by cases x <;>rfl⟩),λK ah=>by
  rw[if_pos rfl];exact h vs w hK hS (qW.mk hf) K ah⟩) hr
theorem aj.cG(G:Value->World->Prop)(own:Value->Nat->Prop)(uses eats:List Nat)(hs:∀v w w',G v w->qQ (λg=>(g<w0.heap.size/\¬aW g)\/own v g) w w'->G v w')(hg:o.guard=none)(h:∀vs w,af aW w0 w->S w->qW Γ uses vs w->∀K:Act->World->Prop,Shut (∀v w',G v w'->af (λg=>∃p∈eats,jt Γ p vs g) w w'->(∀g,own v g->g<w'.heap.size/\(w.heap.size<=g\/∃p∈eats,jt Γ p vs g))->K ((b vs).put o.dst v) w')->o.wp P (b vs) w K (λ_ _ _=>False))(hr:aj P aF aW w0 S rest (k+1) (Γ++[⟨k,λvs=>G (vs k),λvs=>own (vs k)⟩]) (λvs=>(b vs).put o.dst (vs k)) out):aj P aF aW w0 S (o::rest) k Γ b (⟨k,uses,eats,none,[]⟩::out):=
 .op (λvs=>G (vs k)) (λvs=>own (vs k)) uses eats [] none (λvs vs' he=>by rw[he k gN];exact⟨rfl,rfl⟩) (λvs w w' hg hst=>hs _ _ _ hg hst) (λvs w hK hS hf=>⟨true,by simp only[Want,hg],λK ah=>by
  rw[if_pos rfl];refine h vs w hK hS (qW.mk hf) K (λv w' h1 h2 h3=>ah v w' ⟨?_,h2,λg hg=>h3 g ?_⟩)
  .show G (fU vs k v k) w';rw[eV];exact h1
  .have hg':own (fU vs k v k) g:=hg
   rwa[eV] at hg'⟩) hr
theorem aj.wo(F:bY->World->Prop)(own:bY->Nat->Prop)(uses eats deps:List Nat)(hd:∀vs vs':bY,(∀i∈k::deps,vs i=vs' i)->F vs=F vs'/\own vs=own vs')(hs:∀vs w w',F vs w->qQ (λg=>(g<w0.heap.size/\¬aW g)\/own vs g) w w'->F vs w')(hg:o.guard=none)(h:∀vs w,af aW w0 w->S w->qW Γ uses vs w->∀K:Act->World->Prop,Shut (∀v w',F (fU vs k v) w'->af (λg=>∃p∈eats,jt Γ p vs g) w w'->(∀g,own (fU vs k v) g->g<w'.heap.size/\(w.heap.size<=g\/∃p∈eats,jt Γ p vs g))->K ((b vs).put o.dst v) w')->o.wp P (b vs) w K (λ_ _ _=>False))(hr:aj P aF aW w0 S rest (k+1) (Γ++[⟨k,F,own⟩]) (λvs=>(b vs).put o.dst (vs k)) out):aj P aF aW w0 S (o::rest) k Γ b (⟨k,uses,eats,none,deps⟩::out):=
 .op F own uses eats deps none hd hs (λvs w hK hS hf=>⟨true,by simp only[Want,hg],λK ah=>by
  rw[if_pos rfl];exact h vs w hK hS (qW.mk hf) K (λv w' h1 h2 h3=>ah v w' ⟨h1,h2,h3⟩)⟩) hr
end
section
variable{P:Program}{l:List Oper}{Q:Exit->Act->World->Prop}{a:Act}{w:World}{id:Nat}{out:List Out}
theorem fQ(S:World->Prop)(hm:P.follows .mixedOrders=true)(hg:qU l.toArray=true)(hS:∀w1,Below w.heap.size w w1->S w1)(h:∀aF:Act->World->Prop,Shut (∀a w',Q .normal a w'->aF a w')->aj P aF (λ_=>False) w.drew S l 0 [] (λ_=>a) out)(hc:Cm l.toArray [] out=true):(Code.region id l.toArray true).wp P Q a w:=by
 refine VI S (λ_=>False) (λ_=>True) hm hg (λg hg=>hg.elim) trivial (λ_ _ _ _=>trivial) (λw1 hK=>hS w1 ?_) (show wk P l.toArray Q (λ_=>False) w.drew S l 0 [] [lx l.toArray (λ_=>False) (λ_=>True)] (λ_=>a) from ?_)
 .have:=hK.up;exact⟨this.os,this.tape,this.output,this.size,this.block⟩
 .exact aj.VK (λa w h=>h) (h (λa w'=>Q .normal a w') (λa w' h=>h)) [lx l.toArray (λ_=>False) (λ_=>True)]
   (λp vs w h=>by
    by_cases e:l.toArray.size=p
    .have h1:iP ([]:List j6) p vs w:=trivial;exact h1
    .exact trivial)
   (λp vs g h=>(h:False).elim) (λe he=>by simp only[fi] at he;subst he;exact aZ _) (by simp) [] hc
theorem aps(n:Nat)(S:World->Prop)(aW:Nat->Prop)(gC:World->Prop)(hn:l.length=n)(hm:P.follows .mixedOrders=true)(hg:qU l.toArray=true)(hX:∀g,aW g->g<w.heap.size)(hF:gC w.drew)(apr:∀w1 w2,gC w1->qQ (λg=>(g<w.heap.size/\¬aW g)\/aW g) w1 w2->gC w2)(hS:∀w1,af aW w.drew w1->S w1)(h:∀aF:Act->World->Prop,Shut (∀a w',Q .normal a w'->aF a w')->aj P aF aW w.drew S l 0 [⟨n,λ_=>gC,λ_=>aW⟩] (λ_=>a) out)(hc:Cm l.toArray [] out=true):(Code.region id l.toArray true).wp P Q a w:=by
 subst hn;refine VI S aW gC hm hg hX hF apr hS (show wk P l.toArray Q aW w.drew S l 0 [] [⟨l.length,λ_=>gC,λ_=>aW⟩] (λ_=>a) from ?_);exact aj.VK (Δ:= []) (λa w h=>h) (h (λa w'=>Q .normal a w') (λa w' h=>h)) (λp vs w h=>h) (λp vs g h=>h) (λe he=>by cases he) (by simp) [] hc
end
end V
namespace V
open Go Go.CheckFast Go.RowKit
structure Dd where
 idx:Nat
 ch:Bool
 gs:Option (Nat×Tmp)
def IL(ops:Array Oper):List Nat->List Dd->Bool
 |_,[]=>true
 |seen,x::r=>(yN ops x.gs&&(bif x.ch then seen.all (sJ ops x.idx) else true))&&IL ops (bif x.ch then x.idx::seen else seen) r
section
variable(P:Program)(aF:Act->World->Prop)(aP:Nat->bY->World->Prop)
inductive jL:List Oper->Nat->Nat->(bY->Act)->List Dd->Prop
 |done {k j:Nat} {b:bY->Act} (h:∀vs w,aP j vs w->aF (b vs) w):jL [] k j b []
 |read {o:Oper} {rest:List Oper} {k j:Nat} {b:bY->Act} {out:List Dd} (v:Value) (gs:Option (Nat×Tmp))
  (h:∀i vs w,aP i vs w->∃x,(Want o gs (b vs) x\/(x=false/\rJ o gs (b vs)))/\∀K:Act->World->Prop,Shut (∀w',aP i vs w'->K ((b vs).put o.dst v) w')->
   if x=true then o.wp P (b vs) w K (λ_ _ _=>False) else K ((b vs).put o.dst undef) w)
  (hr:jL rest (k+1) j (λvs=>(b vs).put o.dst v) out):jL (o::rest) k j b (⟨k,false,gs⟩::out)
 |bL {o:Oper} {rest:List Oper} {k j:Nat} {b:bY->Act} {out:List Dd} (v:Value) (gs:Option (Nat×Tmp))
  (h:∀vs w,aP j vs w->∃x,(Want o gs (b vs) x\/(x=false/\rJ o gs (b vs)))/\∀K:Act->World->Prop,Shut (∀w',aP (j+1) vs w'->K ((b vs).put o.dst v) w')->
   if x=true then o.wp P (b vs) w K (λ_ _ _=>False) else K ((b vs).put o.dst undef) w)
  (hr:jL rest (k+1) (j+1) (λvs=>(b vs).put o.dst v) out):jL (o::rest) k j b (⟨k,true,gs⟩::out)
 |op {o:Oper} {rest:List Oper} {k j:Nat} {b:bY->Act} {out:List Dd} (gs:Option (Nat×Tmp))
  (h:∀vs w,aP j vs w->∃x,(Want o gs (b vs) x\/(x=false/\rJ o gs (b vs)))/\∀K:Act->World->Prop,Shut (∀v w',aP (j+1) (fU vs k v) w'->K ((b vs).put o.dst v) w')->
   if x=true then o.wp P (b vs) w K (λ_ _ _=>False) else K ((b vs).put o.dst undef) w)
  (hr:jL rest (k+1) (j+1) (λvs=>(b vs).put o.dst (vs k)) out):jL (o::rest) k j b (⟨k,true,gs⟩::out)
end
inductive fN where
 |rd (v:Value)
 |bL (v:Value)
 |op
def fN.dl:fN->eF
 |.rd v=> .bL v []
 |.bL v=> .bL v []
 |.op=> .cG (λ_ _=>True) (λ_ _=>False) [] []
def fN.ao2:fN->Bool
 |.rd _=>false
 |_=>true
def cnt(D:List fN):Nat:=D.countP fN.ao2
def xa:List fN->Array Bool->Nat->Nat
 | [],_,_=>0
 |d::r,l,k=>(if d.ao2=true/\l.getD k false=true then 1 else 0)+xa r l (k+1)
theorem Yj:∀(D:List fN)(l l':Array Bool)(k:Nat),(∀c d,D[c]?=some d->d.ao2=true->l'.getD (k+c) false=l.getD (k+c) false)->xa D l' k=xa D l k
 | [],_,_,_,_=>rfl
 |d::r,l,l',k,h=>by
  unfold xa;rw[Yj r l l' (k+1) (λc d' hd hc=>by
   have:=h (c+1) d' (by simpa using hd) hc
   rwa[show k+(c+1)=k+1+c by omega] at this)]
  congr 1
  cases hd:d.ao2 with
  |false=>simp
  |true=>
   have h1:=h 0 d rfl hd;rw[Nat.add_zero] at h1;rw[h1]
theorem QV:∀(D:List fN)(l:Array Bool)(k i:Nat),(∀c d,D[c]?=some d->d.ao2=true->(l.getD (k+c) false=true↔k+c<i))->xa D l k=cnt (D.take (i-k))
 | [],_,_,_,_=>by simp[xa,cnt]
 |d::r,l,k,i,h=>by
  unfold xa;have ih:=QV r l (k+1) i (λc d' hd hc=>by
   have:=h (c+1) d' (by simpa using hd) hc
   rwa[show k+(c+1)=k+1+c by omega] at this)
  rw[ih];by_cases hk:k<i
  .rw[show i-k=(i-(k+1))+1 by omega,List.take_succ_cons];unfold cnt;rw[List.countP_cons,Nat.add_comm]
   congr 1
   cases hd:d.ao2 with
   |false=>simp
   |true=>
    have h1:=(h 0 d rfl hd).2 (by omega);rw[Nat.add_zero] at h1;simp[h1]
  .rw[show i-k=0 by omega,show i-(k+1)=0 by omega,List.take_zero,List.take_zero];cases hd:d.ao2 with
   |false=>simp[cnt]
   |true=>
    have h1:=h 0 d rfl hd;rw[Nat.add_zero] at h1;rw[if_neg (λh9=>hk (h1.1 h9.2))];simp[cnt]
def IM(P:Program)(ops:Array Oper)(aP:Nat->bY->World->Prop)(a0:Act)(D:List fN)(k:Nat)(o:Oper):fN->Prop
 |.rd v=>∀i vs w,aP i vs w->qR P ops o (cV ops vs (D.map fN.dl) 0 a0) w λv' w'=>v'=v/\aP i vs w'
 |.bL v=>(∀c d,D[c]?=some d->d.ao2=true->Pre ops c k)/\∀vs w,aP (cnt D) vs w->qR P ops o (cV ops vs (D.map fN.dl) 0 a0) w λv' w'=>v'=v/\aP (cnt D+1) vs w'
 |.op=>(∀c d,D[c]?=some d->d.ao2=true->Pre ops c k)/\∀vs w,aP (cnt D) vs w->qR P ops o (cV ops vs (D.map fN.dl) 0 a0) w λv w'=>aP (cnt D+1) (fU vs k v) w'
section
variable{P:Program}{ops:Array Oper}{Q:Exit->Act->World->Prop}{aF:Act->World->Prop}{aP:Nat->bY->World->Prop}{a0:Act}
theorem Bc{o:Oper}{gs:Option (Nat×Tmp)}{a:Act}{w:World}{R:Value->World->Prop}(hc:yN ops gs=true)(h:∃x,(Want o gs a x\/(x=false/\rJ o gs a))/\∀K:Act->World->Prop,(∀v w',R v w'->K (a.put o.dst v) w')->if x=true then o.wp P a w K (λ_ _ _=>False) else K (a.put o.dst undef) w):qR P ops o a w R:=by
 obtain⟨x,hx,hw⟩:=h;intro K hK;have xN:Region.wanted o (yielded ops a.tmps)=x:=by
  rcases hx with hx|⟨rfl,hx⟩
  .exact Pv hx hc
  .exact VJ hx hc
 rw[xN];exact hw K hK
theorem jL.data(hQ:∀a w,aF a w->Q .normal a w){rest:List Oper}{k j:Nat}{b:bY->Act}{out:List Dd}(h:jL P aF aP rest k j b out):
 ∀(D:List fN)(seen:List Nat),D.length=k->j=cnt D->(∀c d,D[c]?=some d->d.ao2=true->c∈seen)->IL ops seen out=true->(∀vs,b vs=cV ops vs (D.map fN.dl) 0 a0)->ops.toList.drop k=rest->k<=ops.size->
 ∃E:List fN,(D++E).length=ops.size/\(∀j o d,E[j]?=some d->ops[k+j]?=some o->IM P ops aP a0 (D++E.take j) (k+j) o d)/\
  ∀vs w,aP (cnt (D++E)) vs w->Q .normal (cV ops vs ((D++E).map fN.dl) 0 a0) w:=by
 have go:∀(o:Oper)(rest:List Oper)(D:List fN)(d:fN)(b:bY->Act),ops.toList.drop D.length=o::rest->(∀vs,b vs=cV ops vs (D.map fN.dl) 0 a0)->IM P ops aP a0 D D.length o d->
  (∀D',D'=D++[d]->(∀vs,(b vs).put o.dst (d.dl.val D.length vs)=cV ops vs (D'.map fN.dl) 0 a0)->D.length+1<=ops.size->ops.toList.drop (D.length+1)=rest->∃E:List fN,(D'++E).length=ops.size/\(∀j o d,E[j]?=some d->ops[D.length+1+j]?=some o->IM P ops aP a0 (D'++E.take j) (D.length+1+j) o d)/\
   ∀vs w,aP (cnt (D'++E)) vs w->Q .normal (cV ops vs ((D'++E).map fN.dl) 0 a0) w)->
  ∃E:List fN,(D++E).length=ops.size/\(∀j o d,E[j]?=some d->ops[D.length+j]?=some o->IM P ops aP a0 (D++E.take j) (D.length+j) o d)/\
   ∀vs w,aP (cnt (D++E)) vs w->Q .normal (cV ops vs ((D++E).map fN.dl) 0 a0) w:=by
  intro o rest D d b hr hb hA ih;have ho:ops.toList[D.length]?=some o:=by
   have:=congrArg List.head? hr
   rwa[List.head?_drop,List.head?_cons] at this
  have ho':ops[D.length]?=some o:=by simpa using ho
  obtain⟨E,h1,h2,h3⟩:=ih _ rfl (λvs=>by
   rw[kU,apq,<- hb,dV,iZ];show _=(b vs).put (eW ops D.length) _;rw[eW,ho'];rfl) (aB ho') (by rw[<- List.drop_drop,hr];rfl)
  refine⟨d::E,by simpa using h1,λj o' d' hj kr=>?_,?_⟩
  .cases j with
   |zero=>
    obtain rfl:d=d':=by simpa using hj
    rw[Nat.add_zero] at kr|-;rw[ho'] at kr;injection kr with kr;subst kr;rw[List.take_zero,List.append_nil];exact hA
   |succ j=>
    have:=h2 j o' d' (by simpa using hj) (by rw[<- kr];congr 1;omega);rw[List.take_succ_cons];rw[show D.length+(j+1)=D.length+1+j by omega]
    rwa[jg] at this
  .intro vs w hS;have e:D++d::E=D++[d]++E:=by rw[jg];rfl
   rw[e] at hS|-;exact h3 vs w hS
 have chain:∀(D:List fN)(seen:List Nat)(k:Nat),(∀c d,D[c]?=some d->d.ao2=true->c∈seen)->seen.all (sJ ops k)=true->∀c d,D[c]?=some d->d.ao2=true->Pre ops c k:=λD seen k hs hm c d hd hc=>v8 (List.all_eq_true.1 hm c (hs c d hd hc))
 have more:∀(D:List fN)(seen:List Nat)(d:fN),(∀c d,D[c]?=some d->d.ao2=true->c∈seen)->∀c d',(D++[d])[c]?=some d'->d'.ao2=true->c∈(bif d.ao2 then D.length::seen else seen):=by
  intro D seen d hs c d' hd hc;rcases Nat.lt_or_ge c D.length with hlt|hge
  .rw[List.getElem?_append_left hlt] at hd;have:=hs c d' hd hc;cases d.ao2;exact this;exact kS _ this
  .rw[List.getElem?_append_right hge] at hd;have hz:c-D.length=0:=by
    rcases Nat.eq_zero_or_pos (c-D.length) with h|h
    .exact h
    .rw[List.getElem?_eq_none (by simp;omega)] at hd;cases hd
   rw[hz] at hd;obtain rfl:d=d':=by simpa using hd
   rw[hc];have:c=D.length:=by omega
   rw[this];exact gN
 induction h with
 | @done k j b h=>
  rintro D seen rfl rfl hs hc hb hr hle;refine⟨[],?_,λj o d hj=>by simp at hj,λvs w hS=>?_⟩
  .have h1:ops.toList.length<=D.length:=List.drop_eq_nil_iff.1 hr;rw[Array.length_toList] at h1;rw[List.append_nil];omega
  .rw[List.append_nil] at hS|-;rw[<- hb];exact hQ _ _ (h vs w hS)
 | @read o rest k j b out v gs h hr ih=>
  rintro D seen rfl rfl hs hc hb oG hle;simp only[IL,ij,cond_false] at hc;refine go o rest D (.rd v) b oG hb (λi vs w hS=>?_) ?_
  .rw[<- hb];refine Bc hc.1.1 ?_;obtain⟨x,hx,hw⟩:=h i vs w hS;exact⟨x,hx,λK hK=>hw K (λw' hw'=>hK v w' ⟨rfl,hw'⟩)⟩
  .rintro D' rfl hb' hle' hr';exact ih (D++[fN.rd v]) seen (by simp) (by simp[cnt,fN.ao2]) (more D seen (.rd v) hs) hc.2 hb' hr' hle'
 | @bL o rest k j b out v gs h hr ih=>
  rintro D seen rfl rfl hs hc hb oG hle;simp only[IL,ij,cond_true] at hc;refine go o rest D (.bL v) b oG hb ⟨chain D seen _ hs hc.1.2,λvs w hS=>?_⟩ ?_
  .rw[<- hb];refine Bc hc.1.1 ?_;obtain⟨x,hx,hw⟩:=h vs w hS;exact⟨x,hx,λK hK=>hw K (λw' hw'=>hK v w' ⟨rfl,hw'⟩)⟩
  .rintro D' rfl hb' hle' hr';exact ih (D++[fN.bL v]) (D.length::seen) (by simp) (by simp[cnt,fN.ao2]) (more D seen (.bL v) hs) hc.2 hb' hr' hle'
 | @op o rest k j b out gs h hr ih=>
  rintro D seen rfl rfl hs hc hb oG hle;simp only[IL,ij,cond_true] at hc;refine go o rest D .op b oG hb ⟨chain D seen _ hs hc.1.2,λvs w hS=>?_⟩ ?_
  .rw[<- hb];refine Bc hc.1.1 ?_;obtain⟨x,hx,hw⟩:=h vs w hS;exact⟨x,hx,λK hK=>hw K (λv w' hw'=>hK v w' hw')⟩
  .rintro D' rfl hb' hle' hr';exact ih (D++[fN.op]) (D.length::seen) (by simp) (by simp[cnt,fN.ao2]) (more D seen .op hs) hc.2 hb' hr' hle'
structure Fj(ops:Array Oper)(aP:Nat->bY->World->Prop)(a0:Act)(D:List fN)(listed:Array Bool)(a:Act)(w:World)(vs:bY):Prop where
 size:listed.size=ops.size
 down:∀i p,listed.getD i false=true->Pre ops p i->listed.getD p false=true
 defers:a.defers=a0.defers
 mW:a.tmps.size=a0.tmps.size
 slot:∀i t d,listed.getD i false=true->eW ops i=some t->t<a0.tmps.size->D[i]?=some d->a.tmps[t]?=some (d.dl.val i vs)
 other:∀t,(∀i,listed.getD i false=true->eW ops i≠some t)->a.tmps[t]?=a0.tmps[t]?
 st:aP (xa D listed 0) vs w
theorem Fj.step{D:List fN}(hg:qU ops=true)(hD:D.length=ops.size)(hA:∀j o d,D[j]?=some d->ops[j]?=some o->IM P ops aP a0 (D.take j) j o d){listed:Array Bool}{a:Act}{w:World}{vs:bY}(hI:Fj ops aP a0 D listed a w vs){i:Nat}(hi:i∈Region.ready .any ops listed):
 wpOp P ops Q i (λa' w'=>∃vs',Fj ops aP a0 D (listed.setIfInBounds i true) a' w' vs') a w:=by
 simp only[qU,ij] at hg;obtain⟨⟨⟨hsel,xM⟩,hdist⟩,yK⟩:=hg;obtain⟨hun,o,ho,wl⟩:=mem_ready.1 hi;have hilt:i<ops.size:=aB ho;have Bd:i<listed.size:=by rw[hI.size];exact hilt
 have lY:listed.getD i false=false:=by
  simp only[Array.getD_eq_getD_getElem?,mV Bd] at hun|-;exact hun
 have hpre:∀p,Pre ops p i->listed.getD p false=true:=by
  intro p hp;cases hp with
  |edge ho' he hb=>rw[ho] at ho';injection ho' with ho';subst ho';exact wl _ he hb
  |more ho' he hb hp=>rw[ho] at ho';injection ho' with ho';subst ho';exact hI.down _ _ (wl _ he hb) hp
 obtain⟨d,hd⟩:∃d,D[i]?=some d:=⟨_,dh (by rw[hD];exact hilt)⟩
 have oH:=hA i o d hd ho;have rI:eW ops i=o.dst:=by rw[eW,ho];rfl
 have IN:∀(L:List fN)(j:Nat)(dj:fN),L[j]?=some dj->(L.map fN.dl)[j]?=some dj.dl:=λL j dj h=>by rw[List.getElem?_map,h];rfl
 have wm:∀t,t∈o.looksAt ops->a.tmps[t]?=(cV ops vs ((D.take i).map fN.dl) 0 a0).tmps[t]?:=by
  intro t ht;by_cases hex:∃j,eW ops j=some t
  .obtain⟨j,hj⟩:=hex;have wn:∀j',eW ops j'=some t->j'=j:=λj' h=>rH hdist _ _ _ h hj
   have later:listed.getD j false=false->i<=j->a.tmps[t]?=(cV ops vs ((D.take i).map fN.dl) 0 a0).tmps[t]?:=λhl hij=>by
    rw[hI.other t (λj' h1 h2=>by rw[wn j' h2,hl] at h1;cases h1),tU ops vs t _ _ _ (λj' _ h2 h3=>by
     have:=wn j' h3;rw[iZ,kT] at h2;omega)]
   rcases Ll xM ho ht hj with rfl|⟨hlt,hp⟩|⟨hlt,hp⟩
   .exact later lY (aZ _)
   .obtain⟨dj,hdj⟩:∃d,D[j]?=some d:=⟨_,dh (by rw[hD];omega)⟩
    by_cases hts:t<a0.tmps.size
    .rw[hI.slot j t dj (hpre _ hp) hj hts hdj];rw[Ag ops vs (λi j t=>rH hdist i j t) t j hj dj.dl ((D.take i).map fN.dl) 0 a0 (Nat.zero_le _) (by rw[Nat.sub_zero];exact IN _ _ _ (by rw[List.getElem?_take,if_pos hlt,hdj])) hts]
    .have od:a0.tmps.size<=t:=Nat.le_of_not_lt hts;rw[pv (by rw[hI.mW];exact od),pv (by rw[uQ];exact od)]
   .refine later ?_ (by omega);cases hl:listed.getD j false;rfl
    .have:=hI.down _ _ hl hp;rw[lY] at this;cases this
  .rw[hI.other t (λj h1 h2=>hex ⟨j,h2⟩),tU ops vs t _ _ _ (λj _ _ h3=>hex ⟨j,h3⟩)]
 have hsize:a.tmps.size=(cV ops vs ((D.take i).map fN.dl) 0 a0).tmps.size:=by rw[uQ,hI.mW]
 have Ah:execOp a.eval o=execOp (cV ops vs ((D.take i).map fN.dl) 0 a0).eval o:=Ln (λcs b=>Region.noSelect_spec hsel i o cs b ho) wm;have xN:=apw wm;have yW:(listed.setIfInBounds i true).getD i false=true:=by simp[Bd]
 have hne:∀c,c≠i->(listed.setIfInBounds i true).getD c false=listed.getD c false:=λc hc=>getD_set_ne false (Ne.symm hc)
 have tV:∀vs' v w',(∀j,j≠i->vs' j=vs j)->d.dl.val i vs'=v->aP (xa D (listed.setIfInBounds i true) 0) vs' w'->∃vs',Fj ops aP a0 D (listed.setIfInBounds i true) (a.put o.dst v) w' vs':=by
  intro vs' v w' hvs hval hst;refine⟨vs',⟨by simpa using hI.size,?_,by rw[put_defers];exact hI.defers,by rw[Er];exact hI.mW,?_,?_,hst⟩⟩
  .intro j p hj hp;rcases uR hj with rfl|hj
   .exact getD_set_true (hpre p hp)
   .exact getD_set_true (hI.down _ _ hj hp)
  .intro j t dj hj hjt hts hdj;by_cases hji:j=i
   .subst hji;rw[hd] at hdj;injection hdj with hdj;subst hdj;rw[<- rI,hjt,Ch _ _ _ (by rw[hI.mW];exact hts),hval]
   .rcases uR hj with rfl|hj
    .exact absurd rfl hji
    .rw[yH _ _ _ _ (λe=>hji (rH hdist j i t hjt (by rw[rI,e]))),hI.slot j t dj hj hjt hts hdj];cases dj with
     |rd v=>rfl
     |bL v=>rfl
     |op=>show some (vs j)=some (vs' j);rw[hvs j hji]
  .intro t ht;have yL:o.dst≠some t:=by
    rw[<- rI];exact ht i yW
   rw[yH _ _ _ _ yL,hI.other t (λj hj=>ht j (getD_set_true hj))]
 have yf:∀{R:Value->World->Prop},qR P ops o (cV ops vs ((D.take i).map fN.dl) 0 a0) w R->(∀v w',R v w'->∃vs',Fj ops aP a0 D (listed.setIfInBounds i true) (a.put o.dst v) w' vs')->wpOp P ops Q i (λa' w'=>∃vs',Fj ops aP a0 D (listed.setIfInBounds i true) a' w' vs') a w:=by
  intro R hrun fin;have hr:=hrun (λa' w'=>∃v',a'=(cV ops vs ((D.take i).map fN.dl) 0 a0).put o.dst v'/\R v' w') (λv w' h=>⟨v,rfl,h⟩);unfold wpOp;simp only[ho];rw[xN];split
  .rename_i hw;rw[if_pos hw] at hr;refine .inl (GQ (Oper.wp_mono (λa' w' h=>?_) (wp_move hsize Ah hr)));obtain⟨v,rfl,h⟩:=h;exact fin v w' h
  .rename_i hw;rw[if_neg hw] at hr;obtain⟨v,hv,h⟩:=hr;rw[yJ hsize hv];exact fin v w h
 have IP:d.ao2=true->(∀c bX,(D.take i)[c]?=some bX->bX.ao2=true->Pre ops c i)->xa D listed 0=cnt (D.take i)/\xa D (listed.setIfInBounds i true) 0=cnt (D.take i)+1:=by
  intro hch hchain;have key:∀c bX,D[c]?=some bX->bX.ao2=true->c≠i->(listed.getD c false=true↔c<i):=by
   intro c bX hdc fK jS;constructor
   .intro hl;rcases Nat.lt_or_gt_of_ne jS with h|h
    .exact h
    .exfalso
     have cn:c<ops.size:=by have:=(gM hdc);omega
     have hac:=hA c _ bX hdc (mV cn);have hpc:Pre ops i c:=by
      cases bX with
      |rd v=>cases fK
      |bL v=>exact hac.1 i d (by rw[List.getElem?_take,if_pos h,hd]) hch
      |op=>exact hac.1 i d (by rw[List.getElem?_take,if_pos h,hd]) hch
     have:=hI.down _ _ hl hpc;rw[lY] at this;cases this
   .intro h;exact hpre c (hchain c bX (by rw[List.getElem?_take,if_pos h,hdc]) fK)
  constructor
  .have:=QV D listed 0 i (λc bX hdc fK=>by
    rw[dV];by_cases jS:c=i
    .subst jS;rw[lY];simp
    .exact key c bX hdc fK jS)
   rwa[Nat.sub_zero] at this
  .have:=QV D (listed.setIfInBounds i true) 0 (i+1) (λc bX hdc fK=>by
    rw[dV];by_cases jS:c=i
    .subst jS;rw[yW];simp
    .rw[hne c jS,key c bX hdc fK jS];omega)
   rw[Nat.sub_zero,List.take_add_one,hd] at this;rw[this];simp[cnt,hch]
 have hst:=hI.st;cases d with
 |rd v=>
  refine yf (oH _ vs w hst) λv' w' ⟨h1,h2⟩=>?_
  subst h1;refine tV vs v' w' (λ_ _=>rfl) rfl ?_;rw[Yj D listed _ 0 (λc bX hdc fK=>by
   rw[dV];exact hne c (λe=>by subst e;rw[hd] at hdc;injection hdc with hdc;subst hdc;cases fK))]
  exact h2
 |bL v=>
  obtain⟨h3,h4⟩:=IP rfl oH.1;rw[h3] at hst;refine yf (oH.2 vs w hst) λv' w' ⟨h1,h2⟩=>?_
  subst h1;exact tV vs v' w' (λ_ _=>rfl) rfl (by rw[h4];exact h2)
 |op=>
  obtain⟨h3,h4⟩:=IP rfl oH.1;rw[h3] at hst;refine yf (oH.2 vs w hst) λv' w' h2=>?_
  exact tV (fU vs i v') v' w' (λj hj=>jQ vs v' hj) (eV vs i v') (by rw[h4];exact h2)
end
section
variable{P:Program}{aF:Act->World->Prop}{aP:Nat->bY->World->Prop}{o:Oper}{rest:List Oper}{k j:Nat}{b:bY->Act}{out:List Dd}
theorem jL.fin(h:∀vs w,aP j vs w->aF (b vs) w):jL P aF aP [] k j b []:= .done h
theorem jL.ok{v:Value}(h:∀i vs w,aP i vs w->(execOp (b vs).eval o).run P w= .ok (.value v) w)(hg:o.guard=none)(hr:jL P aF aP rest (k+1) j (λvs=>(b vs).put o.dst v) out):jL P aF aP (o::rest) k j b (⟨k,false,none⟩::out):=
 .read v none (λi vs w hS=>⟨true,.inl (by simp only[Want,hg]),λK hK=>by
  rw[if_pos rfl,Oper.wp,h i vs w hS];exact hK.out w hS⟩) hr
theorem jL.eI{g t:Nat}{x:Bool}{v:Value}(h:∀i vs w,aP i vs w->(execOp (b vs).eval o).run P w= .ok (.value v) w)(hg:o.guard=some (g,x))(ht:∀vs,(b vs).tmps[t]?=some (.bool x))(hr:jL P aF aP rest (k+1) j (λvs=>(b vs).put o.dst v) out):jL P aF aP (o::rest) k j b (⟨k,false,some (g,t)⟩::out):=
 .read v (some (g,t)) (λi vs w hS=>⟨true,.inl (by simp only[Want,hg];exact⟨trivial,x,ht vs,by cases x <;>rfl⟩),λK hK=>by
  rw[if_pos rfl,Oper.wp,h i vs w hS];exact hK.out w hS⟩) hr
theorem jL.sL{g t:Nat}{x y:Bool}(hg:o.guard=some (g,x))(ht:∀vs,(b vs).tmps[t]?=some (.bool y))(hxy:(y==x)=false)(hr:jL P aF aP rest (k+1) j (λvs=>(b vs).put o.dst undef) out):jL P aF aP (o::rest) k j b (⟨k,false,some (g,t)⟩::out):=
 .read undef (some (g,t)) (λi vs w hS=>⟨false,.inl (by simp only[Want,hg];exact⟨trivial,y,ht vs,hxy.symm⟩),λK hK=>by
  rw[if_neg (by simp)];exact hK.out w hS⟩) hr
theorem jL.Px{g t:Nat}{x:Bool}(hg:o.guard=some (g,x))(ht:∀vs,(b vs).tmps[t]?=some undef)(hr:jL P aF aP rest (k+1) j (λvs=>(b vs).put o.dst undef) out):jL P aF aP (o::rest) k j b (⟨k,false,some (g,t)⟩::out):=
 .read undef (some (g,t)) (λi vs w hS=>⟨false,.inr ⟨rfl,by simp only[rJ,hg];exact⟨trivial,ht vs⟩⟩,λK hK=>by
  rw[if_neg (by simp)];exact hK.out w hS⟩) hr
theorem jL.call(v:Value)(hg:o.guard=none)(h:∀vs w,aP j vs w->∀K:Act->World->Prop,Shut (∀w',aP (j+1) vs w'->K ((b vs).put o.dst v) w')->o.wp P (b vs) w K (λ_ _ _=>False))(hr:jL P aF aP rest (k+1) (j+1) (λvs=>(b vs).put o.dst v) out):jL P aF aP (o::rest) k j b (⟨k,true,none⟩::out):=
 .bL v none (λvs w hS=>⟨true,.inl (by simp only[Want,hg]),λK hK=>by
  rw[if_pos rfl];exact h vs w hS K hK⟩) hr
theorem jL.p7{g t:Nat}{x:Bool}(v:Value)(hg:o.guard=some (g,x))(ht:∀vs,(b vs).tmps[t]?=some (.bool x))(h:∀vs w,aP j vs w->∀K:Act->World->Prop,Shut (∀w',aP (j+1) vs w'->K ((b vs).put o.dst v) w')->o.wp P (b vs) w K (λ_ _ _=>False))(hr:jL P aF aP rest (k+1) (j+1) (λvs=>(b vs).put o.dst v) out):jL P aF aP (o::rest) k j b (⟨k,true,some (g,t)⟩::out):=
 .bL v (some (g,t)) (λvs w hS=>⟨true,.inl (by simp only[Want,hg];exact⟨trivial,x,ht vs,by cases x <;>rfl⟩),λK hK=>by
  rw[if_pos rfl];exact h vs w hS K hK⟩) hr
theorem jL.cG(hg:o.guard=none)(h:∀vs w,aP j vs w->∀K:Act->World->Prop,Shut (∀v w',aP (j+1) (fU vs k v) w'->K ((b vs).put o.dst v) w')->o.wp P (b vs) w K (λ_ _ _=>False))(hr:jL P aF aP rest (k+1) (j+1) (λvs=>(b vs).put o.dst (vs k)) out):jL P aF aP (o::rest) k j b (⟨k,true,none⟩::out):=
 .op none (λvs w hS=>⟨true,.inl (by simp only[Want,hg]),λK hK=>by
  rw[if_pos rfl];exact h vs w hS K hK⟩) hr
end
end V
end Go.Proofs.YtfghplfgndppfaaGreatDoor
