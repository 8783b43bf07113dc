/- Texts of this claim, joined: DkNm. -/
import Derived.Sort.KeysCollected
import Derived.Test.YtfghplfgndppfaaGreatDoorZ14
set_option linter.unusedVariables false
set_option linter.unusedSimpArgs false
set_option maxRecDepth 100000
set_option maxHeartbeats 8000000
namespace Go.Proofs.YtfghplfgndppfaaGreatDoor
section
open Go.RowKit Go.Maps
def gp(i:Nat):UInt8:=UInt8.ofNat (48+i)
def lO(i:Nat):List UInt8:= [110,gp ((i+10) / 10),gp ((i+10)%10)]
theorem aeK{k:Nat}(h:k<16):k=0\/k=1\/k=2\/k=3\/k=4\/k=5\/k=6\/k=7\/k=8\/k=9\/k=10\/k=11\/k=12\/k=13\/k=14\/k=15:=by omega
theorem aeL{k:Nat}(h:k<16):j8 (lO k)=true:=by
 rcases aeK h with rfl|rfl|rfl|rfl|rfl|rfl|rfl|rfl|rfl|rfl|rfl|rfl|rfl|rfl|rfl|rfl <;>decide
theorem QN:∀i:Fin 16,∀j:Fin 16,i.val<j.val->lO i.val<lO j.val:=by decide +kernel
theorem aeM{i j:Nat}(hi:i<16)(hj:j<16)(h:i≠j):lO i≠lO j:=by
 rcases Nat.lt_or_ge i j with h1|h1
 .exact λe=>absurd (QN ⟨i,hi⟩ ⟨j,hj⟩ h1) (by show¬lO i<lO j;rw[e];exact List.lt_irrefl _)
 .exact λe=>absurd (QN ⟨j,hj⟩ ⟨i,hi⟩ (by show j<i;omega)) (by show¬lO j<lO i;rw[e];exact List.lt_irrefl _)
def sr(i:Nat):eo:=⟨1,i,lO i,[]⟩
structure Dz(k:Nat)(d:aV):Prop where
 eA:d.eA=1000
 files:d.files=List.replicate k ⟨[],0⟩
 cw:d.cw= .map []
 turns:d.turns=(List.range k).map sr
 calls:d.calls=k
 dead:d.dead=false
 stop:d.stop=0
 fail:d.fail=0
 tidy:Tidy d.names
 has:∀s,Maps.has d.names (cC s)=true↔∃i<k,s=lO i
 size:Maps.size d.names=k
theorem aeN{d:aV}{s:List UInt8}(hn:j8 s=true)(h1:d.dead=false)(h2:d.stop=0)(h3:d.fail=0):ao1 [s] d=({ d with calls:=d.calls+1 },0):=by
 unfold ao1;rw[if_pos (by simp[hn])];obtain⟨q,f,n,l,t,c,dd,st,fa⟩:=d;simp only at h1 h2 h3;subst h1;subst h2;subst h3;unfold iI oJ;simp
theorem Dz.step{k:Nat}{d:aV}(h:Dz k d)(hk:k<16):(mZ d (lO k)).2=0/\Dz (k+1) (mZ d (lO k)).1:=by
 have hc:=aeN (aeL hk) h.dead h.stop h.fail;have hh:Maps.has d.names (cC (lO k))=false:=by
  rw[<- Bool.not_eq_true];intro e;obtain⟨i,hi,e⟩:=(h.has _).1 e;exact aeM hk (by omega) (by omega) e
 have hs:=h.size;have e:mZ d (lO k)=({ d with calls:=d.calls+1,names:=d.names.put (cC (lO k)) (fp d.files.length),turns:=d.turns++[⟨1,d.files.length,lO k,[]⟩],files:=d.files++[⟨[],0⟩] },0):=by
  unfold mZ;rw[hc,if_neg (by simp),hh,if_neg (by simp),if_neg (by omega)]
 have hl:d.files.length=k:=by rw[h.files,List.length_replicate]
 rw[e];refine⟨rfl,h.eA,?_,h.cw,?_,by show d.calls+1=k+1;rw[h.calls],h.dead,h.stop,h.fail,h.tidy.put (show WideAt.IsKeyLit (cC (lO k)) from trivial) _,?_,?_⟩
 .show d.files++_=_;rw[h.files,List.replicate_succ']
 .show d.turns++_=_;rw[h.turns,hl,List.range_succ,kU];rfl
 .intro s;show Maps.has (d.names.put (cC (lO k)) (fp d.files.length)) (cC s)=true↔_;by_cases hsk:s=lO k
  .subst hsk;rw[Maps.has_put_same h.tidy.isMap (show WideAt.IsKeyLit (cC (lO k)) from trivial)];exact⟨λ_=>⟨k,by omega,rfl⟩,λ_=>rfl⟩
  .rw[Maps.has_put_other (by intro e;injection e with e;exact hsk e),h.has s];constructor
   .rintro⟨i,hi,e⟩;exact⟨i,by omega,e⟩
   .rintro⟨i,hi,e9⟩;refine⟨i,?_,e9⟩;rcases Nat.lt_succ_iff_lt_or_eq.1 hi with h1|h1
    .exact h1
    .subst h1;exact absurd e9 hsk
 .show Maps.size (d.names.put (cC (lO k)) (fp d.files.length))=k+1;rw[Maps.size_put h.tidy,hh,if_neg (by simp),hs]
theorem Dz.zero:Dz 0 (sZ 1000):=⟨rfl,rfl,rfl,rfl,rfl,rfl,rfl,rfl,Maps.tidy_empty,λs=>by
 show Maps.has (DataW.map []) (cC s)=true↔_;rw[Maps.has_eq];constructor
 .intro h;cases h
 .rintro⟨i,h,_⟩;exact absurd h (Nat.not_lt_zero _),rfl⟩
def FL(n:Nat)(keep:List Int):List Nat:=(List.range n).filter λi=>EI (keep.getD i 0)
theorem aeO(n:Nat)(keep:List Int):FL (n+1) keep=FL n keep++(if EI (keep.getD n 0)=true then [n] else []):=by
 unfold FL;rw[List.range_succ,List.filter_append,List.filter_cons,List.filter_nil]
structure yt(D:ed)(W:List (List UInt8)):Prop where
 map:∃es,D= .map es/\es.Pairwise (λp q=>p.1≠q.1)/\∀p∈es,∃x,p.1= .string x
 mem:∀x,x∈W↔Maps.has D (cC x)=true
theorem yt.nil:yt (.map []) []:=⟨⟨[],rfl,List.Pairwise.nil,λp hp=>by cases hp⟩,λx=>by rw[Maps.has_eq];simp⟩
theorem yt.put{D:ed}{W:List (List UInt8)}(h:yt D W)(s:List UInt8)(v:ed):yt (D.put (cC s) v) (W++[s]):=by
 obtain⟨es,rfl,hp,hs⟩:=h.map;have ht:Tidy (DataW.map es:ed):=⟨es,rfl,hp⟩
 refine⟨?_,λx=>?_⟩
 .obtain⟨fl,h2,hp2⟩:=ht.put (show WideAt.IsKeyLit (cC s) from trivial) v;refine⟨fl,h2,hp2,λp hm=>?_⟩;have e:fl=DataW.insert (cC s,v) (es.filter λp=> !p.1.sameKey (cC s)):=by
   have e1:(DataW.map es:ed).put (cC s) v= .map (DataW.insert (cC s,v) (es.filter λp=> !p.1.sameKey (cC s))):=rfl;rw[e1] at h2;injection h2 with h2;exact h2.symm
  rw[e] at hm;rcases List.mem_cons.1 ((WideShapes.insert_perm _ _).mem_iff.1 hm) with h3|h3
  .exact⟨s,by rw[h3];rfl⟩
  .exact hs p (List.mem_filter.1 h3).1
 .by_cases hx:x=s
  .subst hx;rw[Maps.has_put_same ht.isMap (show WideAt.IsKeyLit (cC x) from trivial)];simp
  .rw[Maps.has_put_other (by intro e;injection e with e;exact hx e),<- h.mem x];simp[hx]
theorem pg(keep:List Int)(n:Nat):∀(m i:Nat)(D:ed),i+m=n->yt D ((FL i keep).map lO)->yt (qj ((List.range' i m).map sr) D (keep.drop i)).1 ((FL n keep).map lO)
 |0,i,D,hi,h=>by
  obtain rfl:i=n:=by omega
  exact h
 |m+1,i,D,hi,h=>by
  rw[List.range'_succ,List.map_cons];unfold qj;have e1:(keep.drop i).headD 0=keep.getD i 0:=by
   rw[List.headD_eq_head?_getD,List.head?_drop,oc]
  have e2:(keep.drop i).tail=keep.drop (i+1):=by rw[List.tail_drop]
  rw[e1,e2];refine pg keep n m (i+1) _ (by omega) ?_;rw[aeO,kU];by_cases hv:EI (keep.getD i 0)=true
  .rw[if_pos hv,if_pos hv];exact h.put (lO i) (fp i)
  .rw[if_neg hv,if_neg hv,List.map_nil,List.append_nil];exact h
theorem St:∀(l:List Nat)(fs:List iG)(keep:List Int),(∀f∈fs,qi f=0)->lE l fs keep=(fs,keep)
 | [],fs,keep,_=>rfl
 |i::r,fs,keep,h=>by
  have e:qi (fs.getD i ⟨[],0⟩)=0:=by
   rw[oc];cases hg:fs[i]? with
   |none=>rfl
   |some f=>exact h f (lW hg)
  unfold lE;rw[if_pos e];exact St r fs keep h
theorem Dz.FM{n:Nat}{d:aV}(h:Dz n d)(keep:List Int):yt (CD d keep).names ((FL n keep).map lO):=by
 have e:lE (mx d) d.files keep=(d.files,keep):=St _ _ _ (by rw[h.files];intro f hf;rw[List.eq_of_mem_replicate hf];rfl);show yt (qj d.turns d.cw (lE (mx d) d.files keep).2).1 _;rw[e,h.turns,h.cw,List.range_eq_range'];exact pg keep n n 0 _ (by omega) yt.nil
end
end Go.Proofs.YtfghplfgndppfaaGreatDoor
