/- Texts of this claim, joined: DkW4, DkW6, DkW7, DkR, DkW8, DkW9, DkW10, NdP, TsW2, DkF, NdC. -/
import Derived.Lib.MinMax
import Derived.Laws.Externs
import Derived.Shelf.SlMaps.Clone
import Derived.Lib.SliceRun
import Derived.Test.YtfghplfgndppfaaGreatDoorZ8
set_option linter.unusedVariables false
set_option linter.unusedSimpArgs false
set_option maxRecDepth 100000
set_option maxHeartbeats 8000000
namespace Go.Proofs.YtfghplfgndppfaaGreatDoor
open Go.Proofs.Tryz
section
open Go.RowKit Go.Maps
def fidx(v:ed):Nat:=match v with | .lit (.int .i64 c)=>c.toNat|_=>0
def Ez(fs:List iG)(v:ed):Nat:=(fs.getD (fidx v) ⟨[],0⟩).b.length
def oL(fs:List iG)(left:Lit->Bool):List (Lit×ed)->Nat
 | []=>0
 |p::r=>(if left p.1=true then 0 else Ez fs p.2)+oL fs left r
def EA(fs:List iG)(D:ed):Nat:=match D with | .map es=>oL fs (λ_=>false) es|_=>0
def rN(d:aV):Nat:=EA d.files d.names
theorem PB(fs:List iG)(left:Lit->Bool)(hf:∀f∈fs,f.b.length<=250000):∀es:List (Lit×ed),oL fs left es<=es.length*250000
 | []=>aZ _
 |p::r=>by
  have h:=PB fs left hf r;have h2:Ez fs p.2<=250000:=by
   unfold Ez;rw[oc];cases hx:fs[fidx p.2]? with
   |none=>exact Nat.zero_le _
   |some x=>exact hf x (lW hx)
  unfold oL;rw[iu];split <;>omega
theorem VY(fs:List iG)(left:Lit->Bool):∀es:List (Lit×ed),(∀p∈es,left p.1=true)->oL fs left es=0
 | [],_=>rfl
 |p::r,h=>by
  unfold oL;rw[if_pos (h p (gN ..)),VY fs left r (λq hq=>h q (kS _ hq))]
theorem apE(fs:List iG)(left left':Lit->Bool):∀es:List (Lit×ed),(∀p∈es,left p.1=left' p.1)->oL fs left es=oL fs left' es
 | [],_=>rfl
 |p::r,h=>by
  unfold oL;rw[h p (gN ..),apE fs left left' r (λq hq=>h q (kS _ hq))]
theorem sameKey_self{a:Lit}(h:WideAt.IsKeyLit a):a.sameKey a=true:=by
 cases a <;>simp_all[WideAt.IsKeyLit,Lit.sameKey]
theorem VZ(fs:List iG)(left:Lit->Bool)(kl:Lit)(hk:WideAt.IsKeyLit kl)(hl:left kl=true):∀es:List (Lit×ed),es.Pairwise (λp q=>p.1≠q.1)->∀p∈es,p.1=kl->oL fs (λz=>left z && !z.sameKey kl) es=oL fs left es+Ez fs p.2
 | [],_,p,hp,_=>by cases hp
 |q::r,Aq,p,hp,he=>by
  obtain⟨h1,h2⟩:=List.pairwise_cons.1 Aq;rcases List.mem_cons.1 hp with rfl|hp
  .have hr:oL fs (λz=>left z && !z.sameKey kl) r=oL fs left r:=apE fs _ _ r (λx hx=>by
    have h9:=h1 x hx;rw[he] at h9;rw[Maps.sameKey_ne (λe=>h9 e.symm)];simp)
   unfold oL;rw[hr,he,hl,sameKey_self hk];simp
   omega
  .have hr:=VZ fs left kl hk hl r h2 p hp he;have h9:=h1 p hp;rw[he] at h9;unfold oL;rw[hr,Maps.sameKey_ne h9];simp
   omega
theorem atKey_mem{es:List (Lit×ed)}(Aq:es.Pairwise (λp q=>p.1≠q.1)){kl:Lit}(h:Maps.has (.map es:ed) kl=true):∃p∈es,p.1=kl/\∀z,(DataW.map es:ed).atKey kl z=p.2:=by
 rw[Maps.has_eq,List.any_eq_true] at h;obtain⟨p,hp,hk⟩:=h;have V0:=WideAt.sameKey_eq hk;cases hf:es.find? (λq=>q.1.sameKey kl) with
 |none=>exact absurd hk (by simpa using List.find?_eq_none.1 hf p hp)
 |some q=>
  refine⟨q,List.mem_of_find?_eq_some hf,WideAt.sameKey_eq (by simpa using List.find?_some hf),λz=>?_⟩;simp[DataW.atKey,hf]
theorem V1(key:Value)(kl:Lit)(h:keyOf prog 9 key=some kl):∃x,key=Value.string x:=by
 rw[Go.keyOf_string underlying9] at h;cases key <;>simp[mapKey,underlying9] at h
 exact⟨_,rfl⟩
theorem V2(v:Value)(y:ed×List MemPlace)(h:plainElem prog 3 v=some y):∃c,v=Value.int .i64 c:=by
 obtain⟨a,rfl,_⟩:=plainElem_int_inv underlying3 h;exact⟨a,rfl⟩
theorem x8{B:Nat}{h:cQ}{d:aV}{w:World}(H:bD B h d w)(hok:dx d):
 Calls prog 256 #[.pointer (some ⟨h.g,0,none⟩)] w λe w'=>e= .returned (.int .i64 (rN d:Int))/\aoV w w':=by
 have c2:w.cell? ⟨h.g,2,none⟩=some (.map (some h.nb)):=aoW H.hd 2;obtain⟨es,wy,Aq,bS⟩:=H.names.entries pB;have hlen:es.length<=1000000:=by have:=hok.nG;rw[wy,Maps.size_eq] at this;exact this
 have hnm:=hok.nm.2;have uW:∀f∈d.files,f.b.length<=250000:=λf hf=>(hok.fb f hf).1
 have Ar:rN d=oL d.files (λ_=>false) es:=by unfold rN;rw[wy];rfl
 have Hd:=aoU wy;have Lv:=aoU Ar;have mY:=aoU hnm;clear wy Ar hnm;go_enter func256,ntmps256
 go_wp2_with (at_range;refine wpList_range_own _ rfl _ 87 rfl 9 3 pB underlying87 (plainElem prog 3) h.nb _ d.names rfl H.names ?_;intro w1 He ku Hf)
 go_frame
 have jH:aoV w w1:=⟨ku.os,ku.tape,ku.output,ku.size,λk hk=>ku.block k hk (by simp)⟩
 go_loopw[3] (λnv wr=>∃(left:Lit->Bool)(cnt:Nat),nv= .int .i64 (oL d.files left es:Int)/\wr.ranges prog 9 (plainElem prog 3) h.nb w.heap.size (Maps.size d.names) d.names left cnt/\aoV w wr/\Hid (∀kl,left kl=true->Maps.has d.names kl=true)) (λ_ wr=>wr.rangeLeft h.nb w.heap.size)
 case atStart=>
  refine⟨Maps.has d.names,_,?_,He,jH,λkl hk=>hk⟩;rw[VY d.files (Maps.has d.names) es (λp hp=>by
   rw[Hd.out,Maps.has_eq,List.any_eq_true];exact⟨p,hp,WideAt.sameKey_self (bS p hp)⟩)]
  rfl
 case round=>
  obtain⟨left,cnt,rfl,uX,cj,hsub⟩:=hrel;clear He ku Hf jH;have hT:=PB d.files left uW es;have bh:=aoU (λ(hl0:∀kl,left kl=false)=>apE d.files left (λ_=>false) es (λp _=>hl0 p.1));have dg:=aoU (λ(kl:Lit)(hk:WideAt.IsKeyLit kl)(hl:left kl=true)=>VZ d.files left kl hk hl es Aq);have hle:=uX.left_eq;have Lw:=aoU hle;clear hle;generalize oL d.files left es=T at *;go_wp2_with (first
   |(at_next;refine wpList_next_ranges _ rfl _ rfl 9 pB (plainElem prog 3) Value.string (Value.int .i64) V1 V2 h.nb w.heap.size _ d.names left cnt rfl uX ?_ ?_)
   |go_in)
  .intro hc0 hl0;have hTe:=bh.out hl0;have ov:=aoU hTe;clear uX hTe hc0 hl0;go_wp2_with fail;go_ret;rw[Lv.out,ov.out];exact⟨rfl,cj⟩
  .intro x c kl y1 lZ w2 cnt2 PD hlk hy hat Hg hlt nH PE Lx;obtain⟨i,hi,rM⟩:=mY.out kl (hsub.out kl hlk);have jS:c=(i:Int):=by
    obtain⟨c',e1,e2,_⟩:=plainElem_int_inv underlying3 hy;injection e1 with _ e1;subst e1;injection e2 with e2 _;have h9:=hat (fp 0);rw[rM (fp 0),e2] at h9;unfold fp at h9;injection h9 with h9;injection h9 with _ h9;exact h9.symm
   subst jS;have jI:aoV w w2:=⟨nH.os.trans cj.os,nH.tape.trans cj.tape,nH.output.trans cj.output,bQ cj.size nH.size,λk hk=>(nH.block k (cg hk cj.size) (by simp;omega)).trans (cj.block k hk)⟩
   have H2:=H.up jI;obtain⟨b,f,Ly,Ap,hf,hx,xR,hF⟩:=PA H2 hi;have c1:w2.cell? ⟨h.g,1,none⟩=some (.slice (some ⟨b,0,none⟩) d.files.length h.fq):=by have:=aoW H2.hd 1;rw[<- Ap];exact this
   have c0:w2.cell? ⟨f.g,0,none⟩=some (.slice f.A Ly.b.length f.c):=aoW hF.blk 0;have i1:(i:Int)<(d.files.length:Int):=by omega
   have hxl:Ly.b.length<=250000:=uW Ly (lW hx);have Cr:=Hd.out;obtain⟨p,hp,hpk,hpa⟩:=atKey_mem (es:=es) Aq (kl:=kl) (by rw[<- Cr];exact hsub.out kl hlk);have hfl:Ez d.files p.2=Ly.b.length:=by
    have h9:=hpa (fp 0);rw[<- Cr,rM (fp 0)] at h9;rw[<- h9];unfold Ez fidx fp;simp[List.getD,hx]
   have hst:=dg.out kl (by rw[<- hpk];exact bS p hp) hlk p hp hpk;rw[hfl] at hst;have hG:=aoU hst;have PF:=aoU hlt;have PG:Hid (∀z,(left z && !z.sameKey kl)=true->Maps.has d.names z=true):=λz hz=>hsub.out z (by
    rw[ij] at hz;exact hz.1)
   clear hst hlt hfl hp hpk hpa Cr hx hf Ap hF hat rM hy PD hlk uX PE nH bh dg;go_wp2_with fail;go_roundw
   case rel=>
    refine⟨λz=>left z && !z.sameKey kl,cnt2,?_,Hg,jI,PG⟩;rw[hG.out];rfl
   case measure=>
    rw[Hg.left_eq,Lw.out];exact PF.out
def fileOf(d:aV)(i:Nat):iG:=d.files.getD i ⟨[],0⟩
theorem apF{d:aV}{i:Nat}{x:iG}(h:d.files[i]?=some x):fileOf d i=x:=by unfold fileOf;rw[oc,h];rfl
def ia(d:aV)(s b:List UInt8):aV×Nat:=
 if (ao1 [s] d).2≠0 then((ao1 [s] d).1,(ao1 [s] d).2)
 else match kI d s with
 |none=>((ao1 [s] d).1,11)
 |some i=>
  if 250000<b.length\/250000<(fileOf d i).b.length+b.length then((ao1 [s] d).1,2)
  else if d.eA<rN d+b.length then((ao1 [s] d).1,15)
  else({ (ao1 [s] d).1 with files:=d.files.set i ⟨(fileOf d i).b++b,(fileOf d i).last⟩ },0)
def ld(d:aV)(s:List UInt8):aV×Nat:=
 if (ao1 [s] d).2≠0 then((ao1 [s] d).1,(ao1 [s] d).2)
 else match kI d s with
 |none=>((ao1 [s] d).1,11)
 |some i=>({ (ao1 [s] d).1 with files:=d.files.set i ⟨(fileOf d i).b,(fileOf d i).b.length⟩ },0)
def rP(d:aV)(s:List UInt8):List UInt8×Nat:=
 if j8 s=false then([],10)
 else if d.dead=true then([],50)
 else match kI d s with
 |none=>([],11)
 |some i=>((fileOf d i).b,0)
theorem PN{d:aV}(h:dx d)(i:Nat)(x:iG)(hx:x.b.length<=250000/\x.last<=x.b.length):dx { d with files:=d.files.set i x } :=by
 refine⟨by simpa using h.nm,by simpa using h.la,by simpa using h.tn,by simpa using h.nf,h.Al,h.nG,h.sl,λf hf=>?_,h.s,h.f,h.q⟩;rcases List.mem_or_eq_of_mem_set hf with hf|rfl
 .exact h.fb f hf
 .exact hx
theorem V5{d:aV}(h:dx d)(i:Nat):(fileOf d i).b.length<=250000/\(fileOf d i).last<=(fileOf d i).b.length:=by
 unfold fileOf;rw[oc];cases hx:d.files[i]? with
 |none=>exact⟨Nat.zero_le _,aZ _⟩
 |some x=>exact h.fb x (lW hx)
theorem PO{d:aV}(h:dx d)(s b:List UInt8):dx (ia d s b).1:=by
 have hc:=wv (L:= [s]) h;obtain⟨h1,-⟩:=uT [s] d;unfold ia;split;exact hc
 .split;exact hc
  .rename_i i hi;split;exact hc
   .split;exact hc
    .rename_i hl hq;have h9:=PN hc i ⟨(fileOf d i).b++b,(fileOf d i).last⟩ ⟨by simp;omega,by simp;have:=(V5 h i).2;omega⟩;rw[h1] at h9;exact h9
theorem PP{d:aV}(h:dx d)(s:List UInt8):dx (ld d s).1:=by
 have hc:=wv (L:= [s]) h;obtain⟨h1,-⟩:=uT [s] d;unfold ld;split;exact hc
 .split;exact hc
  .rename_i i hi;have h9:=PN hc i ⟨(fileOf d i).b,(fileOf d i).b.length⟩ ⟨(V5 h i).1,aZ _⟩;rw[h1] at h9;exact h9
theorem V6{d d':aV}(h:d'.names=d.names)(s:List UInt8):kI d' s=kI d s:=by unfold kI;rw[h]
theorem PQ{B:Nat}{h:cQ}{d:aV}{w:World}(H:bD B h d w)(hok:dx d)(cn:d.calls<=1000000000)(s:List UInt8)(hs:s.length<=9223372036854775807):
 Calls prog 186 #[.pointer (some ⟨h.g,0,none⟩),.string (tx s)] w λe w'=>∃h',e= .returned (.int .i64 ((ld d s).2:Int))/\bD B h' (ld d s).1 w'/\dW h w h' w':=by
 have hb:Rd (w.alloc (.cells #[.string (tx s)] 9)) (w.alloc (.cells #[.string (tx s)] 9)).heap.size 1 (some ⟨w.heap.size,0,none⟩) 1 (qd [s]):=Rd.box w (.string (tx s)) 9;have H0:=H.up ((aoV.refl w).alloc (.cells #[.string (tx s)] 9));have D0:dW h w h (w.alloc (.cells #[.string (tx s)] 9)):=dW.up ((aoV.refl w).alloc (.cells #[.string (tx s)] 9));have kx:ld d s=ld d s:=rfl
 conv at kx=>rhs;unfold ld
 have kY:=aoU kx;have jU:=wv (L:= [s]) hok;have hsame:=uT [s] d;have oM:=aoU hsame;clear kx hsame;go_enter func186,ntmps186
 go_wp2_with fail;refine(Ew H0 hok cn [s] (some ⟨w.heap.size,0,none⟩) 1 1 hb (λx hx=>by rw[fi] at hx;subst hx;exact hs) (by omega)).mono ?_;rintro e w1⟨rfl,H1,iR⟩;have kZ:=D0.trans iR;clear H0 D0 iR hb;generalize ao1 [s] d=r at *;obtain⟨d1,ma⟩:=r
 (try dsimp only at *)
 by_cases he:ma≠0
 .have sQ:((ma:Int) !=0)=true:=by rw[bne_iff_ne];omega
  have fv:=kY.out;rw[if_pos he] at fv;have eJ:=aoU fv;clear fv he;go_wp2_with fail;go_ret;rw[eJ.out];exact⟨h,rfl,H1,kZ⟩
 .have sQ:((ma:Int) !=0)=false:=by rw[bne_eq_false_iff_eq];omega
  have fv:=kY.out;rw[if_neg he] at fv;obtain⟨e1,e2,bG,bT,dt,jV,kg,py⟩:=oM.out;rw[<- V6 e2] at fv;have eJ:=aoU fv;clear fv he kY e2 bG bT dt;have EC:=aoU e1;clear e1;go_wp2_with fail;refine(Cq H1 jU s hs).mono ?_;rintro e w2⟨rfl,cm⟩;rcases cm with⟨cm,rfl⟩|⟨i,f,x,cm,hf,hx,rfl⟩
  .have eB:=eJ.out;rw[cm] at eB;have gP:=aoU eB;clear eB cm eJ;go_wp2_with fail;go_ret;rw[gP.out];exact⟨h,rfl,H1,kZ⟩
  .have eB:=eJ.out;rw[cm] at eB
   (try dsimp only at eB)
   have hF:=H1.each i f x hf hx;have c0:w1.cell? ⟨f.g,0,none⟩=some (.slice f.A x.b.length f.c):=aoW hF.blk 0;have c1:w1.cell? ⟨f.g,1,none⟩=some (.int .i64 x.last):=aoW hF.blk 1;have iS:=ay hF.blk 1;have rf:fileOf d i=x:=apF (by rw[<- EC.out];exact hx);rw[rf] at eB;have gP:=aoU eB;have bC:=bM w1 f.g 1 (.int .i64 x.b.length) _ _ hF.blk;have hK:V.af (λk=>k=f.g) w1 (w1.setCell ⟨f.g,1,none⟩ (.int .i64 x.b.length)):=aoZ _ _ _ _ _ (V.af.refl _ _);have hown:=px hF.own hK (λk hk e=>by
    have h1:=jT hF.own hk;rw[e,ka hF.blk] at h1;exact absurd h1 (by decide))
   obtain⟨H3,ik⟩:=H1.PJ (x':=⟨x.b,x.b.length⟩) hf hx bC hown (af.weak hK (λk hk=> .inl hk)) (λk hk=> .inl hk);have mL:=kZ.trans ik;have pD:=aoU H3;clear eB cm hf hx eJ bC hK hown H3 ik rf;go_wp2_with fail;go_ret;have H3:=pD.out;rw[gP.out];rw[EC.out] at H3;exact⟨_,rfl,H3,mL⟩
theorem Hn{B:Nat}{h:cQ}{d:aV}{w:World}(H:bD B h d w)(hok:dx d)(s:List UInt8)(hs:s.length<=9223372036854775807):
 Calls prog 147 #[.pointer (some ⟨h.g,0,none⟩),.string (tx s)] w λe w'=>∃R n c,e= .returned (.tuple #[.slice R n c,.int .i64 ((rP d s).2:Int)])/\fG w' w.heap.size R n c (rP d s).1/\aoV w w':=by
 have kL:rP d s=rP d s:=rfl
 conv at kL=>rhs;unfold rP
 have fJ:=aoU kL;clear kL;go_enter func147,ntmps147
 go_wp2_with fail;refine(VQ s w hs).mono ?_;rintro e w1⟨rfl,rfl⟩;cases hnb:j8 s with
 |false=>
  have kz:=fJ.out;rw[if_pos hnb] at kz;have ED:=aoU kz;clear kz hnb fJ;go_wp2_with fail;go_ret2
  rw[ED.out];exact⟨none,0,0,rfl,fC _ _ _ _,aoV.refl _⟩
 |true=>
  have kz:=fJ.out;rw[if_neg (by rw[hnb];decide)] at kz;have ED:=aoU kz;clear kz hnb fJ;go_wp2_with fail;refine(GY H).mono ?_;rintro e w2⟨rfl,rfl⟩;cases hd:d.dead with
  |true=>
   have il:=ED.out;rw[if_pos hd] at il;have sX:=aoU il;clear il hd ED;go_wp2_with fail;go_ret2
   rw[sX.out];exact⟨none,0,0,rfl,fC _ _ _ _,aoV.refl _⟩
  |false=>
   have il:=ED.out;rw[if_neg (by rw[hd];decide)] at il;have sX:=aoU il;clear il hd ED;go_wp2_with fail;refine(Cq H hok s hs).mono ?_;rintro e w3⟨rfl,cm⟩;rcases cm with⟨cm,rfl⟩|⟨i,f,x,cm,hf,hx,rfl⟩
   .have pE:=sX.out;rw[cm] at pE
    (try dsimp only at pE)
    have EE:=aoU pE;clear pE cm sX;go_wp2_with fail;go_ret2
    rw[EE.out];exact⟨none,0,0,rfl,fC _ _ _ _,aoV.refl _⟩
   .have pE:=sX.out;rw[cm] at pE
    (try dsimp only at pE)
    rw[apF hx] at pE;have EE:=aoU pE;have hF:=H.each i f x hf hx;have hxl:=(hok.fb x (lW hx)).1;have EF:=aoU cm;have yS:=aoU hf;have ew:=aoU hx;clear pE cm sX hf hx;go_wp2_with fail;refine(Cq H hok s hs).mono ?_;rintro e w4⟨rfl,cm⟩;rcases cm with⟨cm,rfl⟩|⟨i2,f2,x2,cm,gV,hx2,rfl⟩
    .rw[EF.out] at cm;cases cm
    .rw[EF.out] at cm;injection cm with cm;subst cm;rw[yS.out] at gV;injection gV with gV;subst gV;have c0:w2.cell? ⟨f.g,0,none⟩=some (.slice f.A x.b.length f.c):=aoW hF.blk 0;have hnil:=fC w2 w2.heap.size 5 1;clear hx2;go_wp2_with (at_builtin;refine iF _ qP (news:=cu x.b) hnil hF.own.rd (sI _) (by omega) (by omega) (aZ _) rfl rfl rfl rfl ?_;intro v3 cH lD fW t8;obtain⟨pC,sV,rfl⟩:=eL lD)
     go_ret2
     rw[EE.out];refine⟨_,_,_,rfl,?_,?_⟩
     .unfold fG;simpa using lD
     .exact⟨fW.os,fW.tape,fW.output,fW.size,λk hk=>fW.block k hk (by simp[Value.ownBlock])⟩
theorem V7{B:Nat}{h:cQ}{d:aV}{w:World}(H:bD B h d w)(hok:dx d)(cn:d.calls<=1000000000)(s:List UInt8)(hs:s.length<=9223372036854775807)(A:Option Addr)(n c:Nat)(bs:List UInt8)(hr:Rd w w.heap.size 1 A n (cu bs))(hn:n<=1099511627776)(hnf:0<n->∀k,bW A k->¬aJ h k):
 Calls prog 185 #[.pointer (some ⟨h.g,0,none⟩),.string (tx s),.slice A n c] w λe w'=>∃h',e= .returned (.int .i64 ((ia d s bs).2:Int))/\bD B h' (ia d s bs).1 w'/\dW h w h' w'/\h'.nb=h.nb/\h'.lb=h.lb:=by
 have hb:Rd (w.alloc (.cells #[.string (tx s)] 9)) (w.alloc (.cells #[.string (tx s)] 9)).heap.size 1 (some ⟨w.heap.size,0,none⟩) 1 (qd [s]):=Rd.box w (.string (tx s)) 9;have H0:=H.up ((aoV.refl w).alloc (.cells #[.string (tx s)] 9));have D0:dW h w h (w.alloc (.cells #[.string (tx s)] 9)):=dW.up ((aoV.refl w).alloc (.cells #[.string (tx s)] 9));have kx:ia d s bs=ia d s bs:=rfl
 conv at kx=>rhs;unfold ia
 have kY:=aoU kx;have jU:=wv (L:= [s]) hok;have hsame:=uT [s] d;have oM:=aoU hsame;have hnl:bs.length=n:=hr.gO.symm;have lz:=aoU hnl;clear kx hsame hnl;go_enter func185,ntmps185
 go_wp2_with fail;refine(Ew H0 hok cn [s] (some ⟨w.heap.size,0,none⟩) 1 1 hb (λx hx=>by rw[fi] at hx;subst hx;exact hs) (by omega)).mono ?_;rintro e w1⟨rfl,H1,iR⟩;have kZ:=D0.trans iR;have kz:=hr.sW (aZ _) (λh0 a ha=>hnf h0 a.block ⟨a,ha,rfl⟩) kZ.kept;clear H0 D0 iR hb hr;generalize ao1 [s] d=r at *;obtain⟨d1,ma⟩:=r
 (try dsimp only at *)
 by_cases he:ma≠0
 .have sQ:((ma:Int) !=0)=true:=by rw[bne_iff_ne];omega
  have fv:=kY.out;rw[if_pos he] at fv;have eJ:=aoU fv;clear fv he;go_wp2_with fail;go_ret;rw[eJ.out];exact⟨h,rfl,H1,kZ,rfl,rfl⟩
 .have sQ:((ma:Int) !=0)=false:=by rw[bne_eq_false_iff_eq];omega
  have fv:=kY.out;rw[if_neg he] at fv;obtain⟨e1,e2,bG,bT,dt,jV,kg,py⟩:=oM.out;have Ar:rN d=rN d1:=by unfold rN;rw[e1,e2]
  rw[<- V6 e2,Ar,<- dt] at fv;have eJ:=aoU fv;clear fv he kY e2 bG bT dt Ar;have EC:=aoU e1;clear e1;go_wp2_with fail;refine(Cq H1 jU s hs).mono ?_;rintro e w2⟨rfl,cm⟩;rcases cm with⟨cm,rfl⟩|⟨i,f,x,cm,hf,hx,rfl⟩
  .have eB:=eJ.out;rw[cm] at eB
   (try dsimp only at eB)
   have gP:=aoU eB;clear eB cm eJ;go_wp2_with fail;go_ret;rw[gP.out];exact⟨h,rfl,H1,kZ,rfl,rfl⟩
  .have eB:=eJ.out;rw[cm] at eB
   (try dsimp only at eB)
   have hF:=H1.each i f x hf hx;have c0:w1.cell? ⟨f.g,0,none⟩=some (.slice f.A x.b.length f.c):=aoW hF.blk 0;have hxl:=(jU.fb x (lW hx)).1;have rf:fileOf d i=x:=apF (by rw[<- EC.out];exact hx);rw[rf,lz.out] at eB;have yS:=aoU hf;have ew:=aoU hx;by_cases PR:250000<n\/250000<x.b.length+n
   .rw[if_pos PR] at eB;have gP:=aoU eB;clear eB cm eJ hf hx rf;by_cases pF:250000<n
    .have l1:(250000:Int)<(n:Int):=by omega
     go_wp2_with fail;go_ret;rw[gP.out];exact⟨h,rfl,H1,kZ,rfl,rfl⟩
    .have l1:¬(250000:Int)<(n:Int):=by omega
     have l2:(250000:Int)-(n:Int)<(x.b.length:Int):=by omega
     go_wp2_with fail;go_ret;rw[gP.out];exact⟨h,rfl,H1,kZ,rfl,rfl⟩
   .rw[if_neg PR] at eB;have hn2:n<=250000:=by omega
    have l1:¬(250000:Int)<(n:Int):=by omega
    have l2:¬(250000:Int)-(n:Int)<(x.b.length:Int):=by omega
    have gP:=aoU eB;clear eB cm eJ hf hx rf PR;go_upto_region 9 with fail
    have hq:=jU.q;have hS:∀W,aoV w1 W->aoV w1 W/\W.cell? ⟨h.g,0,none⟩=some (.int .i64 d1.eA):=λW hW=>⟨hW,aoW (H1.up hW).hd 0⟩
    have pG:=λW (hW:aoV w1 W)=>x8 (H1.up hW) jU
    have Ho:rN d1<=250000000000:=by
     obtain⟨es,wy,-,-⟩:=H1.names.entries pB;unfold rN;rw[wy];have h9:=PB d1.files (λ_=>false) (λf hf=>(jU.fb f hf).1) es;have h8:=jU.nG;rw[wy,Maps.size_eq] at h8;show oL _ _ _<=_;omega
    have v1:IntKind.i64.wrap ((d1.eA:Int)-(n:Int))=(d1.eA:Int)-(n:Int):=IntWalk.i64_in _ (by omega);apply V.fQ _ (by kernel_rfl) (by kernel_rfl) hS
    .intro aF aoX
     (apply V.aj.ok;intros;go_simp;rfl;rfl;go_frame)
     apply V.aj.call (.int .i64 (rN d1:Int)) [];rfl
     .intro vs w1 hK hS _ K ah;go_simp;refine(pG _ hS.1).mono ?_;rintro e w2⟨rfl,aq⟩;exact ah.out _ aq
     simp only[au,Nat.reduceAdd];iterate 9 (apply V.aj.ok;intros;go_simp;rfl;rfl;go_frame)
     apply V.aj.fin [];intro vs w2 hK i7 hf;refine aoX.out _ _ ?_;clear aoX;have aq:=jR hK;have H2:=H1.up aq;have eN:=kZ.trans (dW.up (h:=h) aq);have il:=kz.up aq;clear hK i7 hf pG hS c0 H1 kZ kz hF;by_cases hfull:d1.eA<rN d1+n
     .have l3:(d1.eA:Int)-(n:Int)<(rN d1:Int):=by omega
      have Cy:=gP.out;rw[if_pos hfull] at Cy;have ua:=aoU Cy;clear Cy gP hfull;go_wp2_with fail;go_ret;rw[ua.out];exact⟨h,rfl,H2,eN,rfl,rfl⟩
     .have l3:¬(d1.eA:Int)-(n:Int)<(rN d1:Int):=by omega
      have Cy:=gP.out;rw[if_neg hfull] at Cy;have ua:=aoU Cy;have hF:=H2.each i f x yS.out ew.out;have c0:w2.cell? ⟨f.g,0,none⟩=some (.slice f.A x.b.length f.c):=aoW hF.blk 0;have vb:B<=w2.heap.size:=by have:=H2.lt (.inl rfl);omega
      have hfo:w2.ownsRow B 5 1 (.slice f.A x.b.length f.c) x.b.length (cu x.b):=hF.own;clear Cy gP hfull
      go_wp2_with (at_builtin;refine iF _ qP (news:=cu bs) hfo il (sI _) (by omega) (by omega) vb rfl rfl rfl rfl ?_;intro v3 cH lD fW t8;obtain⟨pC,sV,rfl⟩:=eL lD;have y0:cH.cell? ⟨f.g,0,none⟩=some (.slice f.A x.b.length f.c):=aoW (((qZ hfo fW).block f.g (aB hF.blk) (λhk=>by have h1:=jT hfo hk;rw[ka hF.blk] at h1;exact absurd h1 (by decide))).trans hF.blk) 0;have z0:=ay (((qZ hfo fW).block f.g (aB hF.blk) (λhk=>by have h1:=jT hfo hk;rw[ka hF.blk] at h1;exact absurd h1 (by decide))).trans hF.blk) 0)
      go_ret;have hkr:=qZ hfo fW;have sY:cH.heap[f.g]?=some (.cells #[.slice f.A x.b.length f.c,.int .i64 x.last] 103 (0,0)):=(hkr.block f.g (aB hF.blk) (λhk=>by
       have h1:=jT hfo hk;rw[ka hF.blk] at h1;exact absurd h1 (by decide))).trans hF.blk
      have bC:=bM cH f.g 0 (.slice pC (x.b.length+n) sV) _ _ sY;have hown:=px lD (aoZ cH cH f.g 0 (.slice pC (x.b.length+n) sV) (V.af.refl _ _)) (λk hk e=>by
       have h1:=jT lD hk;rw[e,ka sY] at h1;exact absurd h1 (by decide))
      have hlen:(x.b++bs).length=x.b.length+n:=by rw[dG,lz.out]
      obtain⟨H3,ik⟩:=H2.PJ (x':=⟨x.b++bs,x.last⟩) (A':=pC) (c':=sV) yS.out ew.out (by rw[bC,hlen];rfl) (by unfold fG;rw[hlen,yG];exact hown) (PH hkr f.g 0 _) (λk hk=>uY t8 k hk);have mL:=eN.trans ik;rw[ua.out];rw[EC.out] at H3;first|exact⟨_,rfl,H3,mL,rfl,rfl⟩|exact⟨rfl,_,H3,mL,rfl,rfl⟩
    .kernel_rfl
theorem TA{B:Nat}{h:cQ}{d:aV}{w:World}(H:bD B h d w)(hok:dx d)(cn:d.calls<=1000000000)(s:List UInt8)(hs:s.length<=9223372036854775807)(A:Option Addr)(n c:Nat)(bs:List UInt8)(hr:Rd w w.heap.size 1 A n (cu bs))(hn:n<=1099511627776)(hnf:0<n->∀k,bW A k->¬aJ h k):
 Calls prog 185 #[.pointer (some ⟨h.g,0,none⟩),.string (tx s),.slice A n c] w λe w'=>∃h',e= .returned (.int .i64 ((ia d s bs).2:Int))/\bD B h' (ia d s bs).1 w'/\dW h w h' w':=(V7 H hok cn s hs A n c bs hr hn hnf).mono λe w' ⟨h',h1,h2,h3,_⟩=>⟨h',h1,h2,h3⟩
theorem V8{B:Nat}{h:cQ}{d:aV}{w:World}(H:bD B h d w)(hok:dx d)(cn:d.calls<=1000000000)(s:List UInt8)(hs:s.length<=9223372036854775807)(A:Option Addr)(n c:Nat)(bs:List UInt8)(hr:Rd w w.heap.size 1 A n (cu bs))(hn:n<=1099511627776)(hnf:∀k,bW A k->¬aJ h k):
 Calls prog 185 #[.pointer (some ⟨h.g,0,none⟩),.string (tx s),.slice A n c] w λe w'=>∃h',e= .returned (.int .i64 ((ia d s bs).2:Int))/\bD B h' (ia d s bs).1 w'/\dW h w h' w':=TA H hok cn s hs A n c bs hr hn (λ_=>hnf)
def sZ(q:Int):aV:=⟨q.toNat,[],.map [],.map [],[],0,false,0,0⟩
theorem Ft{q:Int}(h:q<=9223372036854775807):dx (sZ q):=
 ⟨⟨Maps.tidy_empty,λkl hk=>by simp[sZ,Maps.has] at hk⟩,⟨Maps.tidy_empty,λkl hk=>by simp[sZ,Maps.has] at hk⟩,λt ht=>(by cases ht),by simp[sZ],by simp[sZ],by simp[sZ,Maps.size],by simp[sZ,Maps.size],λf hf=>(by cases hf),by simp[sZ],by simp[sZ],by simp[sZ];omega⟩
theorem bD.N6{B:Nat}{h:cQ}{d:aV}{w w':World}(H:bD B h d w){xT lb' n1 n2:Nat}{iR eN:ed}(d':aV)(hd:w'.heap[h.g]?=some (.cells (iH d' { h with nb:=xT,lb:=lb' }) 91 (0,0)))(hK:V.af (λk=>k=h.g) w w')(e1:d'.files=d.files)(e2:d'.names=iR)(bG:d'.cw=eN)(bT:d'.turns=d.turns)(m1:w'.ownsMap prog 9 (plainElem prog 3) xT n1 iR)(m2:w'.ownsMap prog 9 (plainElem prog 3) lb' n2 eN)(hne:xT≠lb')(fe:B<=xT)(ao0:B<=lb'){m0:Nat}(jG:aJ h xT\/m0<=xT)(gV:aJ h lb'\/m0<=lb'):
 bD B { h with nb:=xT,lb:=lb' } d' w'/\V.af (aJ h) w w'/\∀k,aJ { h with nb:=xT,lb:=lb' } k->aJ h k\/m0<=k:=by
 have hx:∀k,k=h.g->kd w k=some (some 91):=λk hk=>by subst hk;exact ka H.hd
 have hf:=H.Hi hK (λk hk=>by rw[hx k hk];exact⟨by decide,by decide,by decide⟩);have ht:=H.Hj hK (λk hk=>by rw[hx k hk];decide);refine⟨⟨hd,H.base,by rw[e1];exact hf.1,by rw[e1];exact H.ly,by rw[e1];exact hf.2,H.apart,by rw[e2];exact GX m1,by rw[bG];exact GX m2,hne,⟨fe,ao0⟩,by rw[bT];exact ht⟩,af.weak hK (λk hk=> .inl hk),λk hk=>?_⟩;rcases hk with hk|hk|hk|hk|hk|hk
 .exact .inl (.inl hk)
 .have hk':k=xT:=hk;subst hk';exact jG
 .have hk':k=lb':=hk;subst hk';exact gV
 .exact .inl (.inr (.inr (.inr (.inl hk))))
 .exact .inl (.inr (.inr (.inr (.inr (.inl hk)))))
 .exact .inl (.inr (.inr (.inr (.inr (.inr hk)))))
theorem E2(q:Int)(w:World):Calls prog 16 #[.int .i64 q] w λe w'=>∃h,e= .returned (.pointer (some ⟨h.g,0,none⟩))/\bD w.heap.size h (sZ q) w'/\aoV w w'/\∀k,aJ h k->w.heap.size<=k:=by
 obtain⟨m,hm⟩:∃m:Int,m=max q 0:=⟨_,rfl⟩
 have hm2:m=(q.toNat:Int):=by omega
 have core:∃h:cQ,h.g=w.heap.size+1+1/\bD w.heap.size h (sZ q) (((w.alloc (.map #[] 0)).alloc (.map #[] 0)).alloc (.cells #[.int .i64 m,.slice none 0 0,.map (some w.heap.size),.map (some (w.heap.size+1)),.slice none 0 0,.int .i64 0,.bool false,.int .i64 0,.int .i64 0] 91))/\aoV w (((w.alloc (.map #[] 0)).alloc (.map #[] 0)).alloc (.cells #[.int .i64 m,.slice none 0 0,.map (some w.heap.size),.map (some (w.heap.size+1)),.slice none 0 0,.int .i64 0,.bool false,.int .i64 0,.int .i64 0] 91))/\∀k,aJ h k->w.heap.size<=k:=by
  refine⟨⟨w.heap.size+1+1,none,0,[],w.heap.size,w.heap.size+1,none,0⟩,rfl,⟨?_,by show _<=w.heap.size+1+1;omega,fC _ _ _ _,rfl,λi f x hf=>(by simp at hf),λi j f f' _ hf=>(by simp at hf),?_,?_,by show w.heap.size≠w.heap.size+1;omega,⟨aZ _,Nat.le_succ _⟩,fC _ _ _ _⟩,(((aoV.refl w).alloc _).alloc _).alloc _,λk hk=>?_⟩
  .have h:=bp ((w.alloc (.map #[] 0)).alloc (.map #[] 0)) (.cells #[.int .i64 m,.slice none 0 0,.map (some w.heap.size),.map (some (w.heap.size+1)),.slice none 0 0,.int .i64 0,.bool false,.int .i64 0,.int .i64 0] 91);rw[fF,fF] at h;rw[hm2] at h|-;exact h
  .exact((World.ownsMap_made w _ _ _).alloc _).alloc _
  .have h:=(World.ownsMap_made (H:=Unit) (w.alloc (.map #[] 0)) prog 9 (plainElem prog 3)).alloc (.cells #[.int .i64 m,.slice none 0 0,.map (some w.heap.size),.map (some (w.heap.size+1)),.slice none 0 0,.int .i64 0,.bool false,.int .i64 0,.int .i64 0] 91);rw[fF] at h;exact h
  .rcases hk with rfl|rfl|rfl|⟨a,ha,_⟩|⟨a,ha,_⟩|⟨f,hf,_⟩
   .show _<=w.heap.size+1+1;omega
   .exact aZ _
   .exact Nat.le_succ _
   .cases ha
   .cases ha
   .cases hf
 have bh:=aoU core;have eT:=aoU hm;clear core hm hm2;have l8:= @run_makeMap prog;by_cases hq:q<0
 .have hm0:m=0:=by have:=eT.out;omega
  subst hm0;have td:max q 0=0:=by omega
  clear eT;go_enter func16,ntmps16
  go_wp2_with fail;go_ret;obtain⟨h,hg,H⟩:=bh.out;exact⟨h,by rw[hg];rfl,H⟩
 .have hm0:m=q:=by have:=eT.out;omega
  subst hm0;have eM:0<=m:=by omega
  have td:max m 0=m:=by omega
  clear eT;go_enter func16,ntmps16
  go_wp2_with fail;go_ret;obtain⟨h,hg,H⟩:=bh.out;exact⟨h,by rw[hg];rfl,H⟩
theorem V9(b n:Nat)(D:ed)(w:World)(hown:w.ownsMap prog 9 (plainElem prog 3) b n D):
 Calls prog 40 #[.map (some b)] w λe w'=>e= .returned (.map (some w.heap.size))/\w'.ownsMap prog 9 (plainElem prog 3) w.heap.size n D/\aoV w w':=by
 have hlt:=hown.lt;obtain⟨es,clock,hb,sK,hs,hD⟩:=hown;have hq:=λw=>run_eql_map_nil_sl (P:=prog) w 87 _ _ (some b) underlying87
 have fin:w.alloc (.map es clock)=w.alloc (.map es clock)/\(w.alloc (.map es clock)).ownsMap prog 9 (plainElem prog 3) w.heap.size n D/\aoV w (w.alloc (.map es clock)):=
  ⟨rfl,⟨es,clock,(MapKept.heap_alloc w _).1,sK,hs,hD⟩,(aoV.refl w).alloc _⟩
 have dz:=aoU fin;clear fin sK hs hD;go_enter func40,ntmps40
 go_wp2
 rw[run_callFunc_extern func68 (by kernel_rfl) (by kernel_rfl) (by kernel_rfl) (e:=Extern.MapsClone.clone) (by kernel_rfl),run_maps_clone_sl w 87 hb];simp only[Result.andThen];rw[Oper.upon_value];go_wp2
 rw[run_typeAssert_map_sl _ 87 20 _ _ _ underlying87];simp only[Result.andThen];rw[Oper.upon_value];go_wp2
 go_ret;exact⟨rfl,dz.out.2⟩
def ju(t:eo)(D:ed):ed:=
 if t.kind=1 then D.put (cC t.a) (fp t.file)
 else if t.kind=2 then(if Maps.has D (cC t.a)=true then(D.put (cC t.b) (fp (nF D t.a))).del (cC t.a) else D)
 else if t.kind=3 then D.del (cC t.a) else D
theorem V'{D:ed}{n:Nat}(h:mw D n){s:List UInt8}(hh:Maps.has D (cC s)=true):nF D s<n:=by
 obtain⟨i,hi,hat⟩:=h.2 _ hh;rw[Pz hat];exact hi
theorem PS{D:ed}{n:Nat}(h:mw D n)(t:eo)(ht:t.kind=1->t.file<n):mw (ju t D) n:=by
 unfold ju;split
 .rename_i h1;exact h.put (ht h1) _
 .split
  .split
   .rename_i hh;exact(h.put (V' h hh) _).del _
   .exact h
  .split;exact h.del _;exact h
theorem Wa{D:ed}{n:Nat}(h:mw D n)(t:eo):Maps.size (ju t D)<=Maps.size D+1:=by
 have hput:∀s i,Maps.size (D.put (cC s) (fp i))<=Maps.size D+1:=λs i=>by
  rw[Maps.size_put h.1];split <;>omega
 unfold ju;split;exact hput _ _
 .split
  .split
   .rename_i hh;have h1:=Maps.size_del (k:=cC t.a) (h.put (V' h hh) t.b).1;have h2:=hput t.b (nF D t.a);split at h1 <;>omega
   .omega
  .split
   .have h1:=Maps.size_del (k:=cC t.a) h.1;split at h1 <;>omega
   .omega
theorem PT(t:eo)(b n m:Nat)(D:ed)(w:World)(hown:w.ownsMap prog 9 (plainElem prog 3) b n D)(hn:n<=4611686018427387903)(ape:mw D m)(hm:m<=1000000)(EG:t.kind=1->t.file<=1000000)(ha:t.a.length<=9223372036854775807)(hb:t.b.length<=9223372036854775807):
 Calls prog 39 #[.agg #[.int .i64 t.kind,.int .i64 t.file,.string (tx t.a),.string (tx t.b)],.map (some b)] w
  λe w'=>e= .returned (.tuple #[])/\(∃n',w'.ownsMap prog 9 (plainElem prog 3) b n' (ju t D))/\V.af (λk=>k=b) w w':=by
 obtain⟨kind,file,ta,tb⟩:=t
 (try dsimp only at *)
 have hka:=Ey ta ha;have hkb:=Ey tb hb;have wE:=aoU hka;have l9:=aoU hkb;have cj:aoV w (w.alloc (.cells #[.int .i64 kind,.int .i64 file,.string (tx ta),.string (tx tb)] 105)):=(aoV.refl w).alloc _;have hblk:=bp w (.cells #[.int .i64 kind,.int .i64 file,.string (tx ta),.string (tx tb)] 105);obtain⟨c0,c1,c2,c3⟩:=qb hblk;have kA:=hown.alloc (.cells #[.int .i64 kind,.int .i64 file,.string (tx ta),.string (tx tb)] 105);have qX:=hown.lt;clear hka hkb;by_cases k1:kind=1
 .have b1:((kind:Int)==1)=true:=by rw[beq_iff_eq];omega
  have hfl:=EG k1;have hd:ju ⟨kind,file,ta,tb⟩ D=D.put (cC ta) (fp file):=by unfold ju;rw[if_pos k1]
  have iT:=aoU hd;clear hd k1 EG;go_enter func39,ntmps39
  go_wp2_with (at_mapUpdate;refine wpList_mapUpdate_in _ rfl _ _ _ 87 rfl 9 3 pB underlying87 (plainElem prog 3) b n D rfl kA (by unfold maxLen;omega) _ _ (cC ta) rfl rfl wE.out _ [] (plainElem_int underlying3 (WalkArith.wf_i64 (by omega))) ?_;intro w3 lB Cx)
  refine bodyPost_end (kV rfl _ _ _) rfl ⟨rfl,by rw[iT.out];exact⟨_,lB⟩,af.sO (V.af.co cj) (Hh Cx.grown)⟩
 .have b1:((kind:Int)==1)=false:=by rw[beq_eq_false_iff_ne];omega
  by_cases k2:kind=2
  .have b2:((kind:Int)==2)=true:=by rw[beq_iff_eq];omega
   cases hh:Maps.has D (cC ta) with
   |false=>
    have hd:ju ⟨kind,file,ta,tb⟩ D=D:=by unfold ju;rw[if_neg k1,if_pos k2,hh];rfl
    have iT:=aoU hd;have dr:=aoU hh;clear hd k1 k2 EG hh;go_enter func39,ntmps39
    go_wp2_with (at_lookup;refine wpList_lookup_own_ok_int _ rfl _ _ 87 rfl 9 3 .i64 pB underlying87 underlying3 (G' _) b _ D rfl kA _ _ rfl wE.out ?_;intro c hat Ao;rw[dr.out])
    refine bodyPost_end (kV rfl _ _ _) rfl ⟨rfl,by rw[iT.out];exact⟨_,kA⟩,V.af.co cj⟩
   |true=>
    obtain⟨i,hi,rM⟩:=ape.2 _ hh;have hd:ju ⟨kind,file,ta,tb⟩ D=(D.put (cC tb) (fp i)).del (cC ta):=by unfold ju;rw[if_neg k1,if_pos k2,if_pos hh,Pz rM]
    have iT:=aoU hd;have dr:=aoU hh;have iw:=aoU rM;clear hd k1 k2 EG hh rM;go_enter func39,ntmps39
    go_wp2_with (first
     |(at_lookup;refine wpList_lookup_own_ok_int _ rfl _ _ 87 rfl 9 3 .i64 pB underlying87 underlying3 (G' _) b _ D rfl kA _ _ rfl wE.out ?_;intro c hat Ao;rw[dr.out];have jS:c=(i:Int):=(by have h9:=iw.out (.lit (.int .i64 0));rw[hat] at h9;unfold fp at h9;injection h9 with h9;injection h9);rw[jS];clear jS hat Ao)
     |(at_mapUpdate;refine wpList_mapUpdate_in _ rfl _ _ _ 87 rfl 9 3 pB underlying87 (plainElem prog 3) b n D rfl kA (by unfold maxLen;omega) _ _ (cC tb) rfl rfl l9.out _ [] (plainElem_int underlying3 (WalkArith.wf_i64 (by omega))) ?_;intro w3 lB Cx;have amu:=((mv (a:=⟨w.heap.size,2,none⟩) (Cx.grown.block w.heap.size (by rw[fF];omega) (by simp;omega))).trans c2))
     |(at_delete;refine wpList_delete_own _ rfl _ _ 87 9 rfl 3 pB underlying87 _ b _ _ rfl (by assumption) _ _ rfl wE.out ?_;intro w4 va PU))
    refine bodyPost_end (kV rfl _ _ _) rfl ⟨rfl,by rw[iT.out];exact⟨_,va⟩,af.sO (V.af.co cj) (Hh (Cx.trans PU).grown)⟩
  .have b2:((kind:Int)==2)=false:=by rw[beq_eq_false_iff_ne];omega
   by_cases aY:kind=3
   .have b3:((kind:Int)==3)=true:=by rw[beq_iff_eq];omega
    have hd:ju ⟨kind,file,ta,tb⟩ D=D.del (cC ta):=by unfold ju;rw[if_neg k1,if_neg k2,if_pos aY]
    have iT:=aoU hd;clear hd k1 k2 aY EG;go_enter func39,ntmps39
    go_wp2_with (at_delete;refine wpList_delete_own _ rfl _ _ 87 9 rfl 3 pB underlying87 _ b _ _ rfl kA _ _ rfl wE.out ?_;intro w4 va PU)
    refine bodyPost_end (kV rfl _ _ _) rfl ⟨rfl,by rw[iT.out];exact⟨_,va⟩,af.sO (V.af.co cj) (Hh PU.grown)⟩
   .have b3:((kind:Int)==3)=false:=by rw[beq_eq_false_iff_ne];omega
    have hd:ju ⟨kind,file,ta,tb⟩ D=D:=by unfold ju;rw[if_neg k1,if_neg k2,if_neg aY]
    have iT:=aoU hd;clear hd k1 k2 aY EG;go_enter func39,ntmps39
    go_wp2_with fail;refine bodyPost_end (kV rfl _ _ _) rfl ⟨rfl,by rw[iT.out];exact⟨_,kA⟩,V.af.co cj⟩
def wF(d:aV):aV×Nat:=
 if (iI d).2≠0 then((iI d).1,(iI d).2)
 else({ (iI d).1 with cw:=d.names,turns:= [] },0)
theorem PV(d:aV):ao1 [] d=iI d:=by unfold ao1;simp
theorem wh{d:aV}(h:dx d):dx (wF d).1:=by
 have hc:=wv (L:= []) h;obtain⟨h1,h2,-⟩:=uT [] d;rw[PV] at hc h1 h2;unfold wF;split;exact hc
 .exact⟨hc.nm,by rw[<- h2];exact hc.nm,λt ht=>(by cases ht),hc.nf,Nat.zero_le _,hc.nG,by rw[<- h2];exact hc.nG,hc.fb,hc.s,hc.f,hc.q⟩
theorem Wb{B:Nat}{h:cQ}{d:aV}{w:World}(H:bD B h d w)(hok:dx d)(cn:d.calls<=1000000000):
 Calls prog 246 #[.pointer (some ⟨h.g,0,none⟩)] w λe w'=>∃h',e= .returned (.int .i64 ((wF d).2:Int))/\bD B h' (wF d).1 w'/\dW h w h' w':=by
 have kx:wF d=wF d:=rfl
 conv at kx=>rhs;unfold wF
 have kY:=aoU kx;have jU:=wv (L:= []) hok;have hsame:=uT [] d;rw[PV] at hsame jU;have oM:=aoU hsame;clear kx hsame;go_enter func246,ntmps246
 go_wp2_with fail;refine(Ew H hok cn [] none 0 0 Rd.empty (λx hx=>by cases hx) (by omega)).mono ?_;rintro e w1⟨rfl,H1,iR⟩;rw[PV] at H1|-;generalize iI d=r at *;obtain⟨d1,ma⟩:=r
 (try dsimp only at *)
 by_cases he:ma≠0
 .have sQ:((ma:Int) !=0)=true:=by rw[bne_iff_ne];omega
  have fv:=kY.out;rw[if_pos he] at fv;have eJ:=aoU fv;clear fv he;go_wp2_with fail;go_ret;rw[eJ.out];exact⟨h,rfl,H1,iR⟩
 .have sQ:((ma:Int) !=0)=false:=by rw[bne_eq_false_iff_eq];omega
  have fv:=kY.out;rw[if_neg he] at fv;have eJ:=aoU fv;have c2:w1.cell? ⟨h.g,2,none⟩=some (.map (some h.nb)):=aoW H1.hd 2;clear fv he kY;go_wp2_with fail;clear c2;refine(V9 h.nb _ d1.names w1 H1.names).mono ?_;rintro e w2⟨rfl,hm2,aq⟩;have H2:=H1.up aq;have c3:w2.cell? ⟨h.g,3,none⟩=some (.map (some h.lb)):=aoW H2.hd 3;have z3:=ay H2.hd 3;have kM:=bM w2 h.g 3 (.map (some w1.heap.size)) _ _ H2.hd;have ao8:V.af (λk=>k=h.g) w2 (w2.setCell ⟨h.g,3,none⟩ (.map (some w1.heap.size))):=aoZ _ _ _ _ _ (V.af.refl _ _)
  have hnb:=(H1.lt (k:=h.nb) (.inr (.inl rfl)))
  have eG:=(H1.lt (k:=h.g) (.inl rfl))
  obtain⟨H3,rQ,wG⟩:=H2.N6 (xT:=h.nb) (lb':=w1.heap.size) (iR:=d1.names) (eN:=d1.names) { d1 with cw:=d1.names } kM ao8 rfl rfl rfl rfl (uS H2.names ao8 (λe9=>by
   have h1:=As H2.names;rw[e9,ka H2.hd] at h1;cases h1)) (uS hm2 ao8 (λe9=>by omega)) (by omega) hnb.1 (by omega) (m0:=w1.heap.size) (.inl (.inr (.inl rfl))) (.inr (aZ _))
  have ik:dW h w1 { h with nb:=h.nb,lb:=w1.heap.size } (w2.setCell ⟨h.g,3,none⟩ (.map (some w1.heap.size))):=⟨rfl,af.sO (V.af.co aq) rQ,wG⟩
  obtain⟨H4,mL⟩:=H3.T5 (re:=none) (sP:=0) [] (fC _ _ _ _) (V.af.refl _ _) (λk hk=>by obtain⟨a,ha,_⟩:=hk;cases ha);have mM:=iR.trans (ik.trans mL);have oe:(w2.setCell ⟨h.g,3,none⟩ (.map (some w1.heap.size))).cell? ⟨h.g,4,none⟩=some (.slice h.ta d1.turns.length h.i6):=aoW H3.hd 4;have z4:=ay H3.hd 4;have nK:=aoU H4;have Wc:=aoU mM;clear kM ao8 H3 rQ wG ik H4 mL mM hm2 aq H2;go_wp2_with fail;go_ret;obtain⟨e1,e2,-⟩:=oM.out;rw[eJ.out,<- e2];have H4:=nK.out;first|exact⟨_,rfl,H4,Wc.out⟩|exact⟨rfl,_,H4,Wc.out⟩
def Hq(d:aV)(s:List UInt8):aV×Nat:=
 if (ao1 [s] d).2≠0 then((ao1 [s] d).1,(ao1 [s] d).2)
 else if Maps.has d.names (cC s)=false then((ao1 [s] d).1,11)
 else({ (ao1 [s] d).1 with names:=ju ⟨3,0,s,[]⟩ d.names,turns:=d.turns++[⟨3,0,s,[]⟩] },0)
def yU(d:aV)(a b:List UInt8):aV×Nat:=
 if (ao1 [a,b] d).2≠0 then((ao1 [a,b] d).1,(ao1 [a,b] d).2)
 else if Maps.has d.names (cC a)=false then((ao1 [a,b] d).1,11)
 else if a=b then((ao1 [a,b] d).1,0)
 else({ (ao1 [a,b] d).1 with names:=ju ⟨2,0,a,b⟩ d.names,turns:=d.turns++[⟨2,0,a,b⟩] },0)
theorem bK{d:aV}(h:dx d)(t:eo)(ht:t.kind≠1)(hn:d.turns.length<1000000)(hs:Maps.size d.names<1000000):dx { d with names:=ju t d.names,turns:=d.turns++[t] } :=by
 refine⟨PS h.nm t (λe=>absurd e ht),h.la,λx hx=>?_,h.nf,by simp;omega,by have:=Wa h.nm t;show Maps.size (ju t d.names)<=_;omega,h.sl,h.fb,h.s,h.f,h.q⟩;rcases List.mem_append.1 hx with hx|hx
 .exact h.tn x hx
 .rw[fi] at hx;subst hx;exact .inr ht
theorem oK{d:aV}(h:dx d)(a b:List UInt8)(hn:d.turns.length<1000000)(hs:Maps.size d.names<1000000):dx (yU d a b).1:=by
 have hc:=wv (L:= [a,b]) h;obtain⟨h1,h2,h3,h4,-⟩:=uT [a,b] d;unfold yU;split;exact hc
 .split;exact hc
  .split;exact hc
   .have h9:=bK hc ⟨2,0,a,b⟩ (show(2:Nat)≠1 by decide) (by rw[h4];exact hn) (by rw[h2];exact hs);rw[h2,h4] at h9;exact h9
theorem amv{B:Nat}{h:cQ}{d:aV}{w:World}(H:bD B h d w)(hok:dx d)(cn:d.calls<=1000000000)(hnt:d.turns.length<1000000)(s:List UInt8)(hs:s.length<=9223372036854775807):
 Calls prog 149 #[.pointer (some ⟨h.g,0,none⟩),.string (tx s)] w λe w'=>∃h',e= .returned (.int .i64 ((Hq d s).2:Int))/\bD B h' (Hq d s).1 w'/\dW h w h' w':=by
 have hb:Rd (w.alloc (.cells #[.string (tx s)] 9)) (w.alloc (.cells #[.string (tx s)] 9)).heap.size 1 (some ⟨w.heap.size,0,none⟩) 1 (qd [s]):=Rd.box w (.string (tx s)) 9;have H0:=H.up ((aoV.refl w).alloc (.cells #[.string (tx s)] 9));have D0:dW h w h (w.alloc (.cells #[.string (tx s)] 9)):=dW.up ((aoV.refl w).alloc (.cells #[.string (tx s)] 9));have kx:Hq d s=Hq d s:=rfl
 conv at kx=>rhs;unfold Hq
 have kY:=aoU kx;have jU:=wv (L:= [s]) hok;have hsame:=uT [s] d;have oM:=aoU hsame;clear kx hsame;go_enter func149,ntmps149
 go_wp2_with fail;refine(Ew H0 hok cn [s] (some ⟨w.heap.size,0,none⟩) 1 1 hb (λx hx=>by rw[fi] at hx;subst hx;exact hs) (by omega)).mono ?_;rintro e w1⟨rfl,H1,iR⟩;have kZ:=D0.trans iR;clear H0 D0 iR hb;generalize ao1 [s] d=r at *;obtain⟨d1,ma⟩:=r
 (try dsimp only at *)
 by_cases he:ma≠0
 .have sQ:((ma:Int) !=0)=true:=by rw[bne_iff_ne];omega
  have fv:=kY.out;rw[if_pos he] at fv;have eJ:=aoU fv;clear fv he;go_wp2_with fail;go_ret;rw[eJ.out];exact⟨h,rfl,H1,kZ⟩
 .have sQ:((ma:Int) !=0)=false:=by rw[bne_eq_false_iff_eq];omega
  have fv:=kY.out;rw[if_neg he] at fv;have eJ:=aoU fv;clear fv he kY;obtain⟨e1,e2,bG,bT,dt,jV,kg,py⟩:=oM.out;go_wp2_with fail;refine(Cq H1 jU s hs).mono ?_;rintro e w2⟨rfl,cm⟩;rcases cm with⟨cm,rfl⟩|⟨i,f,x,cm,hf,hx,rfl⟩
  .have hh:Maps.has d.names (cC s)=false:=by
    unfold kI at cm;rw[e2] at cm;split at cm
    .cases cm
    .rename_i h9;simpa using h9
   have eB:=eJ.out;rw[if_pos hh] at eB;have gP:=aoU eB;clear eB cm hh e1 e2 bG bT dt eJ;go_wp2_with fail;go_ret;rw[gP.out];exact⟨h,rfl,H1,kZ⟩
  .have hh:Maps.has d.names (cC s)=true:=by
    unfold kI at cm;rw[e2] at cm;split at cm;assumption
    .cases cm
   have eB:=eJ.out;rw[if_neg (by rw[hh];decide)] at eB;rw[<- e2,<- bT] at eB;have Hr:d1.turns.length<1000000:=by rw[bT];exact hnt
   have gP:=aoU eB;have u7:=aoU Hr;clear eB cm hh hf hx e1 e2 bG bT dt eJ oM Hr;have aQ:aoV w1 (w1.alloc (.cells #[.int .i64 3,.int .i64 0,.string (tx s),Value.string { data:= #[] }] 105)):=(aoV.refl w1).alloc _;have hblk:=bp w1 (.cells #[.int .i64 3,.int .i64 0,.string (tx s),Value.string { data:= #[] }] 105);have H2:=H1.up aQ;have eN:=kZ.trans (dW.up (h:=h) aQ);have hgb:¬aJ h w1.heap.size:=λhk=>Nat.lt_irrefl _ (H1.lt hk).2
   go_upto_region 7 with fail
   generalize w1.alloc (.cells #[.int .i64 3,.int .i64 0,.string (tx s),Value.string { data:= #[] }] 105)=W2 at *;generalize w1.heap.size=g6 at *;clear H1 kZ aQ;have b0:W2.cell? ⟨g6,0,none⟩=some (.int .i64 3):=aoW hblk 0;have b1:W2.cell? ⟨g6,1,none⟩=some (.int .i64 0):=aoW hblk 1;have b2:W2.cell? ⟨g6,2,none⟩=some (.string (tx s)):=aoW hblk 2;have b3:W2.cell? ⟨g6,3,none⟩=some (Value.string { data:= #[] }):=aoW hblk 3;have c2:W2.cell? ⟨h.g,2,none⟩=some (.map (some h.nb)):=aoW H2.hd 2;have Cz:=H2.up (aoV.drew (aoV.refl W2))
   have Hs:=eN.trans (dW.up (h:=h) (aoV.drew (aoV.refl W2)));have CA:W2.drew.heap[g6]?=some (.cells #[.int .i64 3,.int .i64 0,.string (tx s),Value.string { data:= #[] }] 105 (0,0)):=hblk
   have rR:Hid (Calls prog 39 #[.agg #[.int .i64 3,.int .i64 0,.string (tx s),Value.string { data:= #[] }],.map (some h.nb)] W2.drew λe w'=>e= .returned (.tuple #[])/\(∃n',w'.ownsMap prog 9 (plainElem prog 3) h.nb n' (ju ⟨3,0,s,[]⟩ d1.names))/\V.af (λk=>k=h.nb) W2.drew w'):=PT ⟨3,0,s,[]⟩ h.nb _ _ d1.names W2.drew Cz.names (by have:=jU.nG;omega) jU.nm jU.nf (λe=>by cases e) (hs) (by simp);clear H2 eN hblk;go_still_tail 5,(by kernel_rfl)
   go_wp2_with fail;refine rR.out.mono ?_;rintro e w3⟨rfl,⟨n3,lB⟩,ao8⟩;obtain⟨H3,ik⟩:=Cz.PI (D':=ju ⟨3,0,s,[]⟩ d1.names) ao8 lB;have At:=Hs.trans ik;have Ht:w3.heap[g6]?=some (.cells #[.int .i64 3,.int .i64 0,.string (tx s),Value.string { data:= #[] }] 105 (0,0)):=(ao8.block g6 (aB CA) (λe9=>hgb (.inr (.inl e9)))).trans CA;have Hu:g6<w3.heap.size:=aB Ht;have eH:¬(g6=h.g\/bW h.ta g6):=λhx=>hgb (hx.elim (λe9=> .inl e9) (λe9=> .inr (.inr (.inr (.inr (.inl e9))))))
   clear rR Hs ik lB ao8 CA b0 b1 b2 b3 c2;obtain⟨d3,iJ⟩:∃d3:aV,d3= { d1 with names:=ju ⟨3,0,s,[]⟩ d1.names } :=⟨_,rfl⟩
   rw[<- iJ] at H3;have f4:d3.turns.length<=1000000:=by rw[iJ];exact jU.Al
   have wC:=aoU iJ;clear iJ Cz;have sR:∀g,(g=h.g\/bW h.ta g)->g<w3.heap.size:=by
    rintro g (rfl|hg);exact(H3.lt (.inl rfl)).2;exact(oI H3.turns hg).2
   have hS:∀W,V.af (λg=>g=h.g\/bW h.ta g) w3.drew W->V.af (λg=>g=h.g\/bW h.ta g) w3.drew W/\W.cell? ⟨g6,0,none⟩=some (.int .i64 3)/\W.cell? ⟨g6,1,none⟩=some (.int .i64 0)/\W.cell? ⟨g6,2,none⟩=some (.string (tx s))/\W.cell? ⟨g6,3,none⟩=some (Value.string { data:= #[] }):=λW hK=>by
    have hb:W.heap[g6]?=some (.cells #[.int .i64 3,.int .i64 0,.string (tx s),Value.string { data:= #[] }] 105 (0,0)):=(hK.block g6 Hu eH).trans Ht;exact⟨hK,aoW hb 0,aoW hb 1,aoW hb 2,aoW hb 3⟩
   have vb:B<=w3.heap.size:=by have:=H3.lt (.inl rfl);omega
   go_upto_region 8 with fail
   obtain⟨tt,CB⟩:∃tt:eo,tt=⟨3,0,s,[]⟩:=⟨_,rfl⟩
   have hcs:eo.cs tt= [.int .i64 3,.int .i64 0,.string (tx s),Value.string { data:= #[] }]:=by rw[CB];rfl
   have PW:=aoU hcs;have PX:=aoU CB;clear CB hcs;apply V.aps 11 _ (λg=>g=h.g\/bW h.ta g) (λW=>W.heap[h.g]?=some (.cells (iH d3 h) 91 (0,0))/\W.ownsRow B 105 4 (.slice h.ta d3.turns.length h.i6) d3.turns.length (j7 d3.turns)) rfl (by kernel_rfl) (by kernel_rfl) sR ⟨H3.hd,H3.turns⟩
    (λv1 v2 hF hs=>⟨(hs.block h.g (aB hF.1) (.inr (.inl rfl))).trans hF.1,tX (Y:=λg=>(g<w3.heap.size/\¬(g=h.g\/bW h.ta g))\/(g=h.g\/bW h.ta g)) hF.2 ⟨hs.size,λg hg hy=>hs.block g hg (hy.elim id (λho=> .inr (.inr (qY ho))))⟩⟩) hS
   .intro aF aoX;iterate 4 (apply V.aj.ok;intros;go_simp;rfl;rfl;go_frame)
    apply V.aj.yO [11]
    .intro vs ag i7 hf;obtain⟨⟨hh,-⟩,-⟩:=hf;have c4:ag.cell? ⟨h.g,4,none⟩=some (.slice h.ta d3.turns.length h.i6):=aoW hh 4;clear hh i7;go_simp
     with_reducible rfl
    .rfl
    simp only[au,Nat.reduceAdd];iterate 1 (apply V.aj.ok;intros;go_simp;rfl;rfl;go_frame)
    have hpc:∀y∈eo.cs tt,y.oneCell'=true:=λy hy=>by
     simp only[eo.cs,List.mem_cons,List.not_mem_nil,or_false] at hy;rcases hy with rfl|rfl|rfl|rfl <;>rfl
    apply V.aj.cG (λv W1=>W1.ownsRow w3.heap.size 105 4 v 1 (eo.cs tt)) V.ob [] []
    .exact λv W1 W2 h hs=>tX h hs
    .rfl
    .intro vs ag hK i7 _ K ah;go_simp;refine ah.out _ _ ?_ (V.af.co ((aoV.refl _).alloc _)) (by rintro g rfl;exact⟨by simp,.inl (aZ _)⟩);rw[PW.out];exact wt ag _ _ hK.size rfl (by omega)
    simp only[au,Nat.reduceAdd];apply V.aj.cG (λv W=>W.heap[h.g]?=some (.cells (iH d3 h) 91 (0,0))/\W.ownsRow B 105 4 v (d3.turns.length+1) (j7 d3.turns++eo.cs tt)/\∀k,V.ob v k->bW h.ta k\/w3.heap.size<=k) (λv g=>g=h.g\/V.ob v g) [11,6] [11]
    .rintro v v1 v2⟨f1,f2,f3⟩ hs;exact⟨(hs.block h.g (aB f1) (.inr (.inl rfl))).trans f1,tX (Y:=λg=>(g<w3.drew.heap.size/\¬(g=h.g\/bW h.ta g))\/(g=h.g\/V.ob v g)) f2 ⟨hs.size,λg hg hy=>hs.block g hg (hy.elim id (λho=> .inr (.inr ho)))⟩,f3⟩
    .rfl
    .intro vs ag hK i7 hf K ah;obtain⟨⟨hh,hrow⟩,h12,-⟩:=hf;have wD:ag.ownsRow w3.heap.size 105 4 (vs 6) 1 (eo.cs tt):=h12;obtain⟨xS,c12,Au⟩:=eL wD;rw[Au] at wD
     (try dsimp only at ah|-)
     rw[Au] at ah|-;refine uP _ _ _ PK rfl rfl rfl hrow (Rd.own wD) hpc (by omega) (by omega) (bQ vb hK.size) λv' ai ho' hg' m8=>?_
     have hKr:=qZ hrow hg';refine ah.out _ _ ⟨?_,ho',λk hk=>?_⟩ (af.weak hKr λy hy=>⟨11,fi.2 rfl,.inr hy⟩) (λy hy=>?_)
     .refine(hKr.block h.g (aB hh) (λhx=>?_)).trans hh;have h1:=jT hrow hx;rw[ka hh] at h1;exact absurd h1 (by decide)
     .obtain⟨A',c',rfl⟩:=eL ho';rcases uY m8 k (qY hk) with h9|h9
      .exact .inl h9
      .exact .inr (bQ hK.size h9)
     .rcases hy with rfl|hy
      .exact⟨cg (aB hh) hKr.size,.inr ⟨11,fi.2 rfl,.inl rfl⟩⟩
      .obtain⟨A',c',rfl⟩:=eL ho';refine⟨(oI ho' (qY hy)).2,?_⟩;rcases uY m8 y (qY hy) with h9|h9
       .exact .inr ⟨11,fi.2 rfl,.inr h9⟩
       .exact .inl h9
    simp only[au,Nat.reduceAdd];iterate 2 (apply V.aj.ok;intros;go_simp;rfl;rfl;go_frame)
    apply V.aj.wo (λvs W=>∃eC ix,vs 7= .slice eC (d3.turns.length+1) ix/\W.heap[h.g]?=some (.cells (iH { d3 with turns:=d3.turns++[tt] } { h with ta:=eC,i6:=ix }) 91 (0,0))/\W.ownsRow B 105 4 (.slice eC (d3.turns.length+1) ix) (d3.turns.length+1) (j7 d3.turns++eo.cs tt)/\∀k,bW eC k->bW h.ta k\/w3.heap.size<=k) (λvs g=>g=h.g\/V.ob (vs 7) g) [7] [7] [7] (λvs vs' h=>by rw[h 7 (by simp)];exact⟨rfl,rfl⟩)
    .rintro vs v1 v2⟨eC,ix,f0,f1,f2,f3⟩ hs;exact⟨eC,ix,f0,(hs.block h.g (aB f1) (.inr (.inl rfl))).trans f1,tX (Y:=λg=>(g<w3.drew.heap.size/\¬(g=h.g\/bW h.ta g))\/(g=h.g\/V.ob (vs 7) g)) f2 ⟨hs.size,λg hg hy=>hs.block g hg (hy.elim id (λho=> .inr (.inr (by rw[f0];exact ho))))⟩,f3⟩
    .rfl
    .intro vs ag hK i7 hf K ah;obtain⟨yT,-⟩:=hf;obtain⟨hh,hrow,hat⟩:=yT;have sS:ag.ownsRow B 105 4 (vs 7) (d3.turns.length+1) (j7 d3.turns++eo.cs tt):=hrow;obtain⟨eC,ix,ky⟩:=eL sS;have t4:ag.cell? ⟨h.g,4,none⟩=some (.slice h.ta d3.turns.length h.i6):=aoW hh 4;have dP:=ay hh 4;have bC:=bM ag h.g 4 (.slice eC (d3.turns.length+1) ix) _ _ hh;have kK:V.af (λk=>k=h.g) ag (ag.setCell ⟨h.g,4,none⟩ (.slice eC (d3.turns.length+1) ix)):=aoZ _ _ _ _ _ (V.af.refl _ _);rw[ky] at sS
     have sT:∀k,bW eC k->bW h.ta k\/w3.heap.size<=k:=λk hk=>hat k (by
      show V.ob (vs 7) k;rw[ky];obtain⟨a,rfl,e⟩:=hk;exact e)
     have sU:=px sS kK (λk hk e=>by
      have h1:=jT sS hk;rw[e,ka hh] at h1;exact absurd h1 (by decide))
     (try dsimp only at ah|-)
     rw[ky] at ah|-;have cd:=aoU ky;have dr:=aoU hh;clear ky hat hrow hh i7;go_simp;refine ah.out undef _ ⟨eC,ix,?_,?_,sU,sT⟩ (af.weak kK λy hy=>⟨7,fi.2 rfl,.inl hy⟩) (λy hy=>?_)
     .rw[V.jQ _ _ (by decide)];exact cd.out
     .rw[bC];simp[iH]
     .have hy':y=h.g\/V.ob (vs 7) y:=by simpa only[V.jQ _ _ (show 7≠10 by decide)] using hy
      rcases hy' with rfl|hy'
      .exact⟨cg (aB dr.out) kK.size,.inr ⟨7,fi.2 rfl,.inl rfl⟩⟩
      .rw[cd.out] at hy';refine⟨(oI sU (qY hy')).2,.inr ⟨7,fi.2 rfl,.inr ?_⟩⟩;show V.ob (vs 7) y;rw[cd.out];exact hy'
    simp only[au,Nat.reduceAdd];apply V.aj.fin [10];intro vs ag hK i7 hf;obtain⟨Hk,-⟩:=hf;obtain⟨eC,ix,ky,hh,hrow,hat⟩:=Hk;refine aoX.out _ _ ?_;clear aoX i7
    (try dsimp only)
    rw[ky];have Aw:=H3.up (aoV.drew (aoV.refl w3));obtain⟨H4,lC,t7⟩:=Aw.LA (d3.turns++[tt]) (m0:=w3.heap.size) hh (by rw[dG];unfold j7 at hrow|-;rw[List.flatMap_append];simpa using hrow) hK (aZ _) hat;have mL:dW h w { h with ta:=eC,i6:=ix } ag:=At.trans ⟨rfl,⟨lC.os,lC.tape,lC.output,lC.size,lC.block⟩,t7⟩;clear ky hh hrow hat hK lC t7 Aw H3 At sR hS vb hpc;go_wp2_with fail;go_ret;rw[gP.out];rw[wC.out,PX.out] at H4;first|exact⟨_,rfl,H4,mL⟩|exact⟨rfl,_,H4,mL⟩
   .kernel_rfl
theorem Pb{B:Nat}{h:cQ}{d:aV}{w:World}(H:bD B h d w)(hok:dx d)(cn:d.calls<=1000000000)(hnt:d.turns.length<1000000)(a b:List UInt8)(ha:a.length<=9223372036854775807)(hb0:b.length<=9223372036854775807):
 Calls prog 247 #[.pointer (some ⟨h.g,0,none⟩),.string (tx a),.string (tx b)] w λe w'=>∃h',e= .returned (.int .i64 ((yU d a b).2:Int))/\bD B h' (yU d a b).1 w'/\dW h w h' w':=by
 have hb:Rd (w.alloc (.cells #[.string (tx a),.string (tx b)] 9)) (w.alloc (.cells #[.string (tx a),.string (tx b)] 9)).heap.size 1 (some ⟨w.heap.size,0,none⟩) 2 (qd [a,b]):=Rd.made w #[.string (tx a),.string (tx b)] 9 rfl;have H0:=H.up ((aoV.refl w).alloc (.cells #[.string (tx a),.string (tx b)] 9));have D0:dW h w h (w.alloc (.cells #[.string (tx a),.string (tx b)] 9)):=dW.up ((aoV.refl w).alloc (.cells #[.string (tx a),.string (tx b)] 9));have kx:yU d a b=yU d a b:=rfl
 conv at kx=>rhs;unfold yU
 have kY:=aoU kx;have jU:=wv (L:= [a,b]) hok;have hsame:=uT [a,b] d;have oM:=aoU hsame;clear kx hsame;go_enter func247,ntmps247
 go_wp2_with fail;refine(Ew H0 hok cn [a,b] (some ⟨w.heap.size,0,none⟩) 2 2 hb (λx hx=>by simp only[List.mem_cons,List.not_mem_nil,or_false] at hx;rcases hx with rfl|rfl <;>assumption) (by omega)).mono ?_;rintro e w1⟨rfl,H1,iR⟩;have kZ:=D0.trans iR;clear H0 D0 iR hb;generalize ao1 [a,b] d=r at *;obtain⟨d1,ma⟩:=r
 (try dsimp only at *)
 by_cases he:ma≠0
 .have sQ:((ma:Int) !=0)=true:=by rw[bne_iff_ne];omega
  have fv:=kY.out;rw[if_pos he] at fv;have eJ:=aoU fv;clear fv he;go_wp2_with fail;go_ret;rw[eJ.out];exact⟨h,rfl,H1,kZ⟩
 .have sQ:((ma:Int) !=0)=false:=by rw[bne_eq_false_iff_eq];omega
  have fv:=kY.out;rw[if_neg he] at fv;have eJ:=aoU fv;clear fv he kY;obtain⟨e1,e2,bG,bT,dt,jV,kg,py⟩:=oM.out;go_wp2_with fail;refine(Cq H1 jU a ha).mono ?_;rintro e w2⟨rfl,cm⟩;rcases cm with⟨cm,rfl⟩|⟨i,f,x,cm,hf,hx,rfl⟩
  .have hh:Maps.has d.names (cC a)=false:=by
    unfold kI at cm;rw[e2] at cm;split at cm
    .cases cm
    .rename_i h9;simpa using h9
   have eB:=eJ.out;rw[if_pos hh] at eB;have gP:=aoU eB;clear eB cm hh e1 e2 bG bT dt eJ;go_wp2_with fail;go_ret;rw[gP.out];exact⟨h,rfl,H1,kZ⟩
  .have hh:Maps.has d.names (cC a)=true:=by
    unfold kI at cm;rw[e2] at cm;split at cm;assumption
    .cases cm
   have eB:=eJ.out;rw[if_neg (by rw[hh];decide)] at eB;by_cases hab:a=b
   .rw[if_pos hab] at eB;have gP:=aoU eB;have hsame:((tx a).toList==(tx b).toList)=true:=Lt hab;clear eB cm hh hf hx e1 e2 bG bT dt eJ oM hab;go_wp2_with fail;go_ret;rw[gP.out];exact⟨h,rfl,H1,kZ⟩
   rw[if_neg hab,<- e2,<- bT] at eB;have hsame:((tx a).toList==(tx b).toList)=false:=VO hab;have Hr:d1.turns.length<1000000:=by rw[bT];exact hnt
   have gP:=aoU eB;have u7:=aoU Hr;clear eB cm hh hf hx e1 e2 bG bT dt eJ oM Hr hab;have aQ:aoV w1 (w1.alloc (.cells #[.int .i64 2,.int .i64 0,.string (tx a),Value.string (tx b)] 105)):=(aoV.refl w1).alloc _;have hblk:=bp w1 (.cells #[.int .i64 2,.int .i64 0,.string (tx a),Value.string (tx b)] 105);have H2:=H1.up aQ;have eN:=kZ.trans (dW.up (h:=h) aQ);have hgb:¬aJ h w1.heap.size:=λhk=>Nat.lt_irrefl _ (H1.lt hk).2
   go_upto_region 9 with fail
   generalize w1.alloc (.cells #[.int .i64 2,.int .i64 0,.string (tx a),Value.string (tx b)] 105)=W2 at *;generalize w1.heap.size=g6 at *;clear H1 kZ aQ;have b0:W2.cell? ⟨g6,0,none⟩=some (.int .i64 2):=aoW hblk 0;have b1:W2.cell? ⟨g6,1,none⟩=some (.int .i64 0):=aoW hblk 1;have b2:W2.cell? ⟨g6,2,none⟩=some (.string (tx a)):=aoW hblk 2;have b3:W2.cell? ⟨g6,3,none⟩=some (Value.string (tx b)):=aoW hblk 3;have c2:W2.cell? ⟨h.g,2,none⟩=some (.map (some h.nb)):=aoW H2.hd 2;have Cz:=H2.up (aoV.drew (aoV.refl W2));have Hs:=eN.trans (dW.up (h:=h) (aoV.drew (aoV.refl W2)))
   have CA:W2.drew.heap[g6]?=some (.cells #[.int .i64 2,.int .i64 0,.string (tx a),Value.string (tx b)] 105 (0,0)):=hblk;have rR:Hid (Calls prog 39 #[.agg #[.int .i64 2,.int .i64 0,.string (tx a),Value.string (tx b)],.map (some h.nb)] W2.drew λe w'=>e= .returned (.tuple #[])/\(∃n',w'.ownsMap prog 9 (plainElem prog 3) h.nb n' (ju ⟨2,0,a,b⟩ d1.names))/\V.af (λk=>k=h.nb) W2.drew w'):=PT ⟨2,0,a,b⟩ h.nb _ _ d1.names W2.drew Cz.names (by have:=jU.nG;omega) jU.nm jU.nf (λe=>by cases e) (ha) (hb0);clear H2 eN hblk;go_still_tail 5,(by kernel_rfl)
   go_wp2_with fail;refine rR.out.mono ?_;rintro e w3⟨rfl,⟨n3,lB⟩,ao8⟩;obtain⟨H3,ik⟩:=Cz.PI (D':=ju ⟨2,0,a,b⟩ d1.names) ao8 lB;have At:=Hs.trans ik;have Ht:w3.heap[g6]?=some (.cells #[.int .i64 2,.int .i64 0,.string (tx a),Value.string (tx b)] 105 (0,0)):=(ao8.block g6 (aB CA) (λe9=>hgb (.inr (.inl e9)))).trans CA;have Hu:g6<w3.heap.size:=aB Ht;have eH:¬(g6=h.g\/bW h.ta g6):=λhx=>hgb (hx.elim (λe9=> .inl e9) (λe9=> .inr (.inr (.inr (.inr (.inl e9))))))
   clear rR Hs ik lB ao8 CA b0 b1 b2 b3 c2;obtain⟨d3,iJ⟩:∃d3:aV,d3= { d1 with names:=ju ⟨2,0,a,b⟩ d1.names } :=⟨_,rfl⟩
   rw[<- iJ] at H3;have f4:d3.turns.length<=1000000:=by rw[iJ];exact jU.Al
   have wC:=aoU iJ;clear iJ Cz;have sR:∀g,(g=h.g\/bW h.ta g)->g<w3.heap.size:=by
    rintro g (rfl|hg);exact(H3.lt (.inl rfl)).2;exact(oI H3.turns hg).2
   have hS:∀W,V.af (λg=>g=h.g\/bW h.ta g) w3.drew W->V.af (λg=>g=h.g\/bW h.ta g) w3.drew W/\W.cell? ⟨g6,0,none⟩=some (.int .i64 2)/\W.cell? ⟨g6,1,none⟩=some (.int .i64 0)/\W.cell? ⟨g6,2,none⟩=some (.string (tx a))/\W.cell? ⟨g6,3,none⟩=some (Value.string (tx b)):=λW hK=>by
    have hb:W.heap[g6]?=some (.cells #[.int .i64 2,.int .i64 0,.string (tx a),Value.string (tx b)] 105 (0,0)):=(hK.block g6 Hu eH).trans Ht;exact⟨hK,aoW hb 0,aoW hb 1,aoW hb 2,aoW hb 3⟩
   have vb:B<=w3.heap.size:=by have:=H3.lt (.inl rfl);omega
   go_upto_region 10 with fail
   obtain⟨tt,CB⟩:∃tt:eo,tt=⟨2,0,a,b⟩:=⟨_,rfl⟩
   have hcs:eo.cs tt= [.int .i64 2,.int .i64 0,.string (tx a),Value.string (tx b)]:=by rw[CB];rfl
   have PW:=aoU hcs;have PX:=aoU CB;clear CB hcs;apply V.aps 11 _ (λg=>g=h.g\/bW h.ta g) (λW=>W.heap[h.g]?=some (.cells (iH d3 h) 91 (0,0))/\W.ownsRow B 105 4 (.slice h.ta d3.turns.length h.i6) d3.turns.length (j7 d3.turns)) rfl (by kernel_rfl) (by kernel_rfl) sR ⟨H3.hd,H3.turns⟩
    (λv1 v2 hF hs=>⟨(hs.block h.g (aB hF.1) (.inr (.inl rfl))).trans hF.1,tX (Y:=λg=>(g<w3.heap.size/\¬(g=h.g\/bW h.ta g))\/(g=h.g\/bW h.ta g)) hF.2 ⟨hs.size,λg hg hy=>hs.block g hg (hy.elim id (λho=> .inr (.inr (qY ho))))⟩⟩) hS
   .intro aF aoX;iterate 4 (apply V.aj.ok;intros;go_simp;rfl;rfl;go_frame)
    apply V.aj.yO [11]
    .intro vs ag i7 hf;obtain⟨⟨hh,-⟩,-⟩:=hf;have c4:ag.cell? ⟨h.g,4,none⟩=some (.slice h.ta d3.turns.length h.i6):=aoW hh 4;clear hh i7;go_simp
     with_reducible rfl
    .rfl
    simp only[au,Nat.reduceAdd];iterate 1 (apply V.aj.ok;intros;go_simp;rfl;rfl;go_frame)
    have hpc:∀y∈eo.cs tt,y.oneCell'=true:=λy hy=>by
     simp only[eo.cs,List.mem_cons,List.not_mem_nil,or_false] at hy;rcases hy with rfl|rfl|rfl|rfl <;>rfl
    apply V.aj.cG (λv W1=>W1.ownsRow w3.heap.size 105 4 v 1 (eo.cs tt)) V.ob [] []
    .exact λv W1 W2 h hs=>tX h hs
    .rfl
    .intro vs ag hK i7 _ K ah;go_simp;refine ah.out _ _ ?_ (V.af.co ((aoV.refl _).alloc _)) (by rintro g rfl;exact⟨by simp,.inl (aZ _)⟩);rw[PW.out];exact wt ag _ _ hK.size rfl (by omega)
    simp only[au,Nat.reduceAdd];apply V.aj.cG (λv W=>W.heap[h.g]?=some (.cells (iH d3 h) 91 (0,0))/\W.ownsRow B 105 4 v (d3.turns.length+1) (j7 d3.turns++eo.cs tt)/\∀k,V.ob v k->bW h.ta k\/w3.heap.size<=k) (λv g=>g=h.g\/V.ob v g) [11,6] [11]
    .rintro v v1 v2⟨f1,f2,f3⟩ hs;exact⟨(hs.block h.g (aB f1) (.inr (.inl rfl))).trans f1,tX (Y:=λg=>(g<w3.drew.heap.size/\¬(g=h.g\/bW h.ta g))\/(g=h.g\/V.ob v g)) f2 ⟨hs.size,λg hg hy=>hs.block g hg (hy.elim id (λho=> .inr (.inr ho)))⟩,f3⟩
    .rfl
    .intro vs ag hK i7 hf K ah;obtain⟨⟨hh,hrow⟩,h12,-⟩:=hf;have wD:ag.ownsRow w3.heap.size 105 4 (vs 6) 1 (eo.cs tt):=h12;obtain⟨xS,c12,Au⟩:=eL wD;rw[Au] at wD
     (try dsimp only at ah|-)
     rw[Au] at ah|-;refine uP _ _ _ PK rfl rfl rfl hrow (Rd.own wD) hpc (by omega) (by omega) (bQ vb hK.size) λv' ai ho' hg' m8=>?_
     have hKr:=qZ hrow hg';refine ah.out _ _ ⟨?_,ho',λk hk=>?_⟩ (af.weak hKr λy hy=>⟨11,fi.2 rfl,.inr hy⟩) (λy hy=>?_)
     .refine(hKr.block h.g (aB hh) (λhx=>?_)).trans hh;have h1:=jT hrow hx;rw[ka hh] at h1;exact absurd h1 (by decide)
     .obtain⟨A',c',rfl⟩:=eL ho';rcases uY m8 k (qY hk) with h9|h9
      .exact .inl h9
      .exact .inr (bQ hK.size h9)
     .rcases hy with rfl|hy
      .exact⟨cg (aB hh) hKr.size,.inr ⟨11,fi.2 rfl,.inl rfl⟩⟩
      .obtain⟨A',c',rfl⟩:=eL ho';refine⟨(oI ho' (qY hy)).2,?_⟩;rcases uY m8 y (qY hy) with h9|h9
       .exact .inr ⟨11,fi.2 rfl,.inr h9⟩
       .exact .inl h9
    simp only[au,Nat.reduceAdd];iterate 2 (apply V.aj.ok;intros;go_simp;rfl;rfl;go_frame)
    apply V.aj.wo (λvs W=>∃eC ix,vs 7= .slice eC (d3.turns.length+1) ix/\W.heap[h.g]?=some (.cells (iH { d3 with turns:=d3.turns++[tt] } { h with ta:=eC,i6:=ix }) 91 (0,0))/\W.ownsRow B 105 4 (.slice eC (d3.turns.length+1) ix) (d3.turns.length+1) (j7 d3.turns++eo.cs tt)/\∀k,bW eC k->bW h.ta k\/w3.heap.size<=k) (λvs g=>g=h.g\/V.ob (vs 7) g) [7] [7] [7] (λvs vs' h=>by rw[h 7 (by simp)];exact⟨rfl,rfl⟩)
    .rintro vs v1 v2⟨eC,ix,f0,f1,f2,f3⟩ hs;exact⟨eC,ix,f0,(hs.block h.g (aB f1) (.inr (.inl rfl))).trans f1,tX (Y:=λg=>(g<w3.drew.heap.size/\¬(g=h.g\/bW h.ta g))\/(g=h.g\/V.ob (vs 7) g)) f2 ⟨hs.size,λg hg hy=>hs.block g hg (hy.elim id (λho=> .inr (.inr (by rw[f0];exact ho))))⟩,f3⟩
    .rfl
    .intro vs ag hK i7 hf K ah;obtain⟨yT,-⟩:=hf;obtain⟨hh,hrow,hat⟩:=yT;have sS:ag.ownsRow B 105 4 (vs 7) (d3.turns.length+1) (j7 d3.turns++eo.cs tt):=hrow;obtain⟨eC,ix,ky⟩:=eL sS;have t4:ag.cell? ⟨h.g,4,none⟩=some (.slice h.ta d3.turns.length h.i6):=aoW hh 4;have dP:=ay hh 4;have bC:=bM ag h.g 4 (.slice eC (d3.turns.length+1) ix) _ _ hh;have kK:V.af (λk=>k=h.g) ag (ag.setCell ⟨h.g,4,none⟩ (.slice eC (d3.turns.length+1) ix)):=aoZ _ _ _ _ _ (V.af.refl _ _);rw[ky] at sS
     have sT:∀k,bW eC k->bW h.ta k\/w3.heap.size<=k:=λk hk=>hat k (by
      show V.ob (vs 7) k;rw[ky];obtain⟨a,rfl,e⟩:=hk;exact e)
     have sU:=px sS kK (λk hk e=>by
      have h1:=jT sS hk;rw[e,ka hh] at h1;exact absurd h1 (by decide))
     (try dsimp only at ah|-)
     rw[ky] at ah|-;have cd:=aoU ky;have dr:=aoU hh;clear ky hat hrow hh i7;go_simp;refine ah.out undef _ ⟨eC,ix,?_,?_,sU,sT⟩ (af.weak kK λy hy=>⟨7,fi.2 rfl,.inl hy⟩) (λy hy=>?_)
     .rw[V.jQ _ _ (by decide)];exact cd.out
     .rw[bC];simp[iH]
     .have hy':y=h.g\/V.ob (vs 7) y:=by simpa only[V.jQ _ _ (show 7≠10 by decide)] using hy
      rcases hy' with rfl|hy'
      .exact⟨cg (aB dr.out) kK.size,.inr ⟨7,fi.2 rfl,.inl rfl⟩⟩
      .rw[cd.out] at hy';refine⟨(oI sU (qY hy')).2,.inr ⟨7,fi.2 rfl,.inr ?_⟩⟩;show V.ob (vs 7) y;rw[cd.out];exact hy'
    simp only[au,Nat.reduceAdd];apply V.aj.fin [10];intro vs ag hK i7 hf;obtain⟨Hk,-⟩:=hf;obtain⟨eC,ix,ky,hh,hrow,hat⟩:=Hk;refine aoX.out _ _ ?_;clear aoX i7
    (try dsimp only)
    rw[ky];have Aw:=H3.up (aoV.drew (aoV.refl w3));obtain⟨H4,lC,t7⟩:=Aw.LA (d3.turns++[tt]) (m0:=w3.heap.size) hh (by rw[dG];unfold j7 at hrow|-;rw[List.flatMap_append];simpa using hrow) hK (aZ _) hat;have mL:dW h w { h with ta:=eC,i6:=ix } ag:=At.trans ⟨rfl,⟨lC.os,lC.tape,lC.output,lC.size,lC.block⟩,t7⟩;clear ky hh hrow hat hK lC t7 Aw H3 At sR hS vb hpc;go_wp2_with fail;go_ret;rw[gP.out];rw[wC.out,PX.out] at H4;first|exact⟨_,rfl,H4,mL⟩|exact⟨rfl,_,H4,mL⟩
   .kernel_rfl
theorem Z4(l:List eo){k:Nat}{t:eo}(h:l[k]?=some t)(i:Nat)(hi:i<4):(j7 l)[k*4+i]?=t.cs[i]?:=by
 induction l generalizing k with
 |nil=>simp at h
 |cons q ja ih=>
  have hc:j7 (q::ja)=q.cs++j7 ja:=rfl;have hl:q.cs.length=4:=rfl;rw[hc];cases k with
  |zero=>
   simp at h;subst h;rw[List.getElem?_append_left (by omega),Nat.zero_mul,dV]
  |succ k=>
   simp at h;rw[List.getElem?_append_right (by omega),hl,show(k+1)*4+i-4=k*4+i by omega];exact ih h
theorem Rd.Wd{w:World}{B n:Nat}{A:Option Addr}{l:List eo}(h:Rd w B 4 A n (j7 l)){k:Nat}(hk:k<n)(hl:n=l.length):∃b o t,A=some ⟨b,o,none⟩/\b<B/\l[k]?=some t/\w.cell? ⟨b,o+k*4,none⟩=some (.int .i64 t.kind)/\w.cell? ⟨b,o+k*4+1,none⟩=some (.int .i64 t.file)/\w.cell? ⟨b,o+k*4+2,none⟩=some (.string (tx t.a))/\w.cell? ⟨b,o+k*4+3,none⟩=some (.string (tx t.b)):=by
 obtain⟨b,o,rfl,hb,hc⟩:=h.2 (by omega);have ht:l[k]?=some l[k]:=dh (by omega);have fK:=λi (hi:i<4) u (hu:(l[k]'(by omega)).cs[i]?=some u)=>hc (k*4+i) u ((Z4 l ht i hi).trans hu)
 exact⟨b,o,l[k],rfl,hb,ht,fK 0 (by omega) _ rfl,fK 1 (by omega) _ rfl,fK 2 (by omega) _ rfl,fK 3 (by omega) _ rfl⟩
theorem zk(l:List eo):(j7 l).length=l.length*4:=by
 induction l with
 |nil=>rfl
 |cons q ja ih=>
  have hc:j7 (q::ja)=q.cs++j7 ja:=rfl;rw[hc,dG,ih,iu];show 4+_=_;omega
theorem Rd.wA{w:World}{B n:Nat}{A:Option Addr}{l:List eo}(h:Rd w B 4 A n (j7 l)):n=l.length:=by have:=h.1;rw[zk] at this;omega
theorem zv(g:Nat)(lb:Array Value)(p:eo->Bool)(A:Option Addr)(n c:Nat)(l:List eo)(w:World)(hr:Rd w w.heap.size 4 A n (j7 l))(hn:n<=1000000000)(eg:∀args w,(callFunc g args).run prog w= .ok (.enter g args) w)(hp:∀(W:World) (x:eo),aoV w W->Calls prog g (#[.agg #[.int .i64 x.kind,.int .i64 x.file,.string (tx x.a),.string (tx x.b)]]++lb) W λe w'=>e= .returned (.bool (p x))/\aoV W w'):
 Calls prog 114 #[.slice A n c,.func (.func g) #[] lb] w λe w'=>∃z:Int,e= .returned (.int .i64 z)/\decide (0<=z)=l.any p/\aoV w w':=by
 have bU:=aoU hr.wA;have ib:=aoU hp;clear hp;go_enter func114,ntmps114
 go_wp2_with fail;go_loopw[8] (λi wr=>∃k:Nat,i= .int .i64 k/\k<=n/\Hid ((l.take k).any p=false)/\aoV w wr) (λi _=>n-(intOf i).toNat)
 case atStart=>exact⟨0,rfl,by omega,rfl,aoV.refl _⟩
 case round=>
  obtain⟨k,rfl,hk,hall,hu⟩:=hrel;by_cases hlt:k<n
  .have bS:k<l.length:=by have:=bU.out;omega
   obtain⟨b,o,x,rfl,hb,hx,c0,c1,c2,c3⟩:=(hr.up hu).Wd hlt bU.out;have jF:(l.take (k+1)).any p=((l.take k).any p||p x):=by rw[List.take_add_one,List.any_append,hx];simp
   have hin:p x=true->l.any p=true:=λh9=>List.any_eq_true.2 ⟨x,lW hx,h9⟩
   have kW:=aoU jF;have vd:=aoU hin;clear hx jF hin;have gQ:=ib.out wr x hu;have yQ:(k:Int)<(n:Int):=by omega
   go_wp2_with fail;refine gQ.mono ?_;rintro e w2⟨rfl,aq⟩;obtain⟨q,hq⟩:=bB (p x)
   rw[<- hq];have ji:=aoU hq;clear hq c0 c1 c2 c3 gQ;cases q
   .go_wp2_with fail;go_roundw
    case rel=>
     refine⟨k+1,by go_num,by omega,?_,hu.trans aq⟩;show _=_;rw[kW.out,hall.out,<- ji.out];rfl
    case measure=>simp[intOf];omega
   .go_wp2_with fail;go_ret;refine⟨_,rfl,?_,hu.trans aq⟩;rw[vd.out ji.out.symm,lw];omega
  .have yQ:¬(k:Int)<(n:Int):=by omega
   go_wp2_with fail;go_ret;refine⟨_,rfl,?_,hu⟩;have h9:=hall.out;rw[lV (by have:=bU.out;omega)] at h9;rw[h9];decide
theorem G3(g:Nat)(lb:Array Value)(p:eo->Bool)(A:Option Addr)(n c:Nat)(l:List eo)(w:World)(hr:Rd w w.heap.size 4 A n (j7 l))(hn:n<=1000000000)(eg:∀args w,(callFunc g args).run prog w= .ok (.enter g args) w)(hp:∀(W:World) (x:eo),aoV w W->Calls prog g (#[.agg #[.int .i64 x.kind,.int .i64 x.file,.string (tx x.a),.string (tx x.b)]]++lb) W λe w'=>e= .returned (.bool (p x))/\aoV W w'):
 Calls prog 66 #[.slice A n c,.func (.func g) #[] lb] w λe w'=>e= .returned (.bool (l.any p))/\aoV w w':=by
 have bh:=aoU (zv g lb p A n c l w hr hn eg hp);clear hp;go_enter func66,ntmps66
 go_wp2_with fail;refine bh.out.mono ?_;rintro e w1⟨z,rfl,hz,hu⟩;have jh:=aoU hz;clear hz;go_wp2_with fail;go_ret;rw[<- jh.out];exact⟨rfl,hu⟩
def wH(i:Nat)(t:eo):Bool:=decide (t.kind=1)&&decide (t.file=i)
theorem G4(qg i:Nat)(t:eo)(w:World)(hg:qg<w.heap.size)(hc:w.cell? ⟨qg,0,none⟩=some (.int .i64 i)):
 Calls prog 67 #[.agg #[.int .i64 t.kind,.int .i64 t.file,.string (tx t.a),.string (tx t.b)],.pointer (some ⟨qg,0,none⟩)] w λe w'=>e= .returned (.bool (wH i t))/\aoV w w':=by
 have h0:aoV w (w.alloc (.cells #[.int .i64 t.kind,.int .i64 t.file,.string (tx t.a),.string (tx t.b)] 105)):=(aoV.refl w).alloc _;have hblk:=bp w (.cells #[.int .i64 t.kind,.int .i64 t.file,.string (tx t.a),.string (tx t.b)] 105);have c0:=aoW hblk 0;have c1:=aoW hblk 1;have kJ:=(h0.cell (p:=⟨qg,0,none⟩) hg).trans hc;by_cases k1:t.kind=1
 .have b1:((t.kind:Int)==1)=true:=by rw[beq_iff_eq];omega
  by_cases k2:t.file=i
  .have b2:((t.file:Int)==(i:Int))=true:=by rw[beq_iff_eq];omega
   have hm:wH i t=true:=by unfold wH;rw[decide_eq_true k1,decide_eq_true k2];rfl
   have eT:=aoU hm;clear hm k1 k2;go_enter func67,ntmps67
   go_wp2_with fail;go_ret;rw[eT.out];exact⟨rfl,h0⟩
  .have b2:((t.file:Int)==(i:Int))=false:=by rw[beq_eq_false_iff_ne];omega
   have hm:wH i t=false:=by unfold wH;rw[decide_eq_false k2];simp
   have eT:=aoU hm;clear hm k1 k2;go_enter func67,ntmps67
   go_wp2_with fail;go_ret;rw[eT.out];exact⟨rfl,h0⟩
 .have b1:((t.kind:Int)==1)=false:=by rw[beq_eq_false_iff_ne];omega
  have hm:wH i t=false:=by unfold wH;rw[decide_eq_false k1];simp
  have eT:=aoU hm;clear hm k1;go_enter func67,ntmps67
  go_wp2_with fail;go_ret;rw[eT.out];exact⟨rfl,h0⟩
def xU(D:ed)(i:Nat):Bool:=match D with | .map es=>es.any (λp=>decide (fidx p.2=i))|_=>false
theorem apM(b n m qg i:Nat)(D:ed)(w:World)(hown:w.ownsMap prog 9 (plainElem prog 3) b n D)(ape:mw D m)(hg:qg<w.heap.size)(hc:w.cell? ⟨qg,0,none⟩=some (.int .i64 i)):
 Calls prog 65 #[.map (some b),.pointer (some ⟨qg,0,none⟩)] w λe w'=>e= .returned (.bool (xU D i))/\aoV w w':=by
 obtain⟨es,wy,Aq,bS⟩:=hown.entries pB;have hnm:=ape.2;have Ar:xU D i=es.any (λp=>decide (fidx p.2=i)):=by rw[wy];rfl
 have Hd:=aoU wy;have Lv:=aoU Ar;have mY:=aoU hnm;clear wy Ar hnm;go_enter func65,ntmps65
 go_wp2_with (at_range;refine wpList_range_own _ rfl _ 87 rfl 9 3 pB underlying87 (plainElem prog 3) b _ D rfl hown ?_;intro w1 He ku Hf)
 go_frame
 have jH:aoV w w1:=⟨ku.os,ku.tape,ku.output,ku.size,λk hk=>ku.block k hk (by simp)⟩
 go_loopw[] (λwr=>∃(left:Lit->Bool)(cnt:Nat),wr.ranges prog 9 (plainElem prog 3) b w.heap.size n D left cnt/\aoV w wr/\Hid (∀kl,left kl=true->Maps.has D kl=true)/\Hid (∀p∈es,left p.1=false->fidx p.2≠i)) (λwr=>wr.rangeLeft b w.heap.size)
 case atStart=>
  refine⟨Maps.has D,_,He,jH,λkl hk=>hk,λp hp hl=>?_⟩;exfalso
  have h9:Maps.has D p.1=true:=by
   rw[Hd.out,Maps.has_eq,List.any_eq_true];exact⟨p,hp,WideAt.sameKey_self (bS p hp)⟩
  rw[h9] at hl;cases hl
 case round=>
  obtain⟨left,cnt,uX,cj,hsub,hno⟩:=hrel;clear He ku Hf jH;have hle:=uX.left_eq;have Lw:=aoU hle;clear hle;go_wp2_with (first
   |(at_next;refine wpList_next_ranges _ rfl _ rfl 9 pB (plainElem prog 3) Value.string (Value.int .i64) V1 V2 b w.heap.size _ D left cnt rfl uX ?_ ?_)
   |go_in)
  .intro hc0 hl0;have hv:xU D i=false:=by
    rw[Lv.out,List.any_eq_false];intro p hp;rw[lw];exact hno.out p hp (hl0 p.1)
   have cd:=aoU hv;clear uX hv hc0 hl0;go_wp2_with fail;go_ret;rw[cd.out];exact⟨rfl,cj⟩
  .intro x PY kl y1 lZ w2 cnt2 PD hlk hy hat Hg hlt nH PE Lx;obtain⟨j,hj,rM⟩:=mY.out kl (hsub.out kl hlk);have jS:PY=(j:Int):=by
    obtain⟨c',e1,e2,_⟩:=plainElem_int_inv underlying3 hy;injection e1 with _ e1;subst e1;injection e2 with e2 _;have h9:=hat (fp 0);rw[rM (fp 0),e2] at h9;unfold fp at h9;injection h9 with h9;injection h9 with _ h9;exact h9.symm
   subst jS;have jI:aoV w w2:=⟨nH.os.trans cj.os,nH.tape.trans cj.tape,nH.output.trans cj.output,bQ cj.size nH.size,λk hk=>(nH.block k (cg hk cj.size) (by simp;omega)).trans (cj.block k hk)⟩
   have kJ:=(jI.cell (p:=⟨qg,0,none⟩) hg).trans hc;have Cr:=Hd.out;obtain⟨p,hp,hpk,hpa⟩:=atKey_mem (es:=es) Aq (kl:=kl) (by rw[<- Cr];exact hsub.out kl hlk);have Ai:fidx p.2=j:=by
    have h9:=hpa (fp 0);rw[<- Cr,rM (fp 0)] at h9;rw[<- h9];rfl
   have PF:=aoU hlt;have PG:Hid (∀z,(left z && !z.sameKey kl)=true->Maps.has D z=true):=λz hz=>hsub.out z (by
    rw[ij] at hz;exact hz.1)
   have nL:j≠i->Hid (∀q∈es,(left q.1 && !q.1.sameKey kl)=false->fidx q.2≠i):=λhji q hq hl=>by
    by_cases apk:q.1=kl
    .have Pu:q=p:=by
      have h8:=List.pairwise_iff_getElem.1 Aq;obtain⟨a,ha,rfl⟩:=List.getElem_of_mem hq;obtain⟨a2,rS,rfl⟩:=List.getElem_of_mem hp;rcases Nat.lt_trichotomy a a2 with h7|h7|h7
      .exact absurd (apk.trans hpk.symm) (h8 a a2 ha rS h7)
      .subst h7;rfl
      .exact absurd (hpk.trans apk.symm) (h8 a2 a rS ha h7)
     rw[Pu,Ai];exact hji
    .rw[Maps.sameKey_ne apk] at hl;exact hno.out q hq (by simpa using hl)
   have vd:j=i->Hid (xU D i=true):=λhji=>by
    show _=_;rw[Lv.out,List.any_eq_true];exact⟨p,hp,by rw[lw,Ai];exact hji⟩
   clear hlt Ai hp hpk hpa Cr hat rM hy PD hlk uX PE nH;by_cases hji:j=i
   .have hb:((j:Int)==(i:Int))=true:=by rw[beq_iff_eq];omega
    have cd:=vd hji;clear vd nL hji;go_wp2_with fail;go_ret;rw[cd.out];exact⟨rfl,jI⟩
   .have hb:((j:Int)==(i:Int))=false:=by rw[beq_eq_false_iff_ne];omega
    have cd:=nL hji;clear vd nL hji;go_wp2_with fail;go_roundw
    case rel=>exact⟨λz=>left z && !z.sameKey kl,cnt2,Hg,jI,PG,cd⟩
    case measure=>
     rw[Hg.left_eq,Lw.out];exact PF.out
def rh(l:List Nat):List Value:=l.map λ(k:Nat)=> .int .i64 k
theorem PZ(l:List Nat):∀u∈rh l,u.oneCell'=true:=by
 intro u hu;obtain⟨k,_,rfl⟩:=List.mem_map.1 hu;rfl
theorem G5(l:List Nat):(rh l).length=l.length:=by simp[rh]
def Az(d:aV)(i:Nat):Bool:=d.turns.any (wH i)||(xU d.names i||xU d.cw i)
def yV(d:aV)(k:Nat):List Nat:=(List.range k).filter (Az d)
def mx(d:aV):List Nat:=yV d d.files.length
theorem G6(d:aV)(k:Nat):yV d (k+1)=if Az d k=true then yV d k++[k] else yV d k:=by
 unfold yV;rw[List.range_succ,List.filter_append];split
 .rename_i h;simp[h]
 .rename_i h;simp[h]
theorem Wf(d:aV)(k:Nat):(yV d k).length<=k:=by
 have:=List.length_filter_le (Az d) (List.range k);rw[List.length_range] at this;exact this
theorem apx:jr prog 67 3 1 8:=jr.mk' underlying67 (z:= .int .i64 0) (by kernel_rfl) rfl (by decide)
theorem G7{B:Nat}{h:cQ}{d:aV}{w:World}(H:bD B h d w)(hok:dx d):
 Calls prog 38 #[.pointer (some ⟨h.g,0,none⟩)] w λe w'=>∃R rn rc,e= .returned (.slice R rn rc)/\w'.ownsRow w.heap.size 3 1 (.slice R rn rc) rn (rh (mx d))/\aoV w w':=by
 obtain⟨n,hn⟩:=bB d.files.length
 have fj:n<=1000000:=by rw[hn];exact hok.nf
 have hnt:d.turns.length<=1000000:=hok.Al;have c1:w.cell? ⟨h.g,1,none⟩=some (.slice h.fa n h.fq):=by rw[hn];exact aoW H.hd 1
 have ff:=aoU hn;have oN:=aoU (G6 d);have my:=aoU (Wf d);clear hn;go_enter func38,ntmps38
 go_wp2_with fail;clear c1;go_loopw[3,12] (λl7 iv wr=>∃(k:Nat)(R:Option Addr)(rn rc:Nat),iv= .int .i64 k/\l7= .slice R rn rc/\k<=n/\rn<=k/\wr.ownsRow w.heap.size 3 1 (.slice R rn rc) rn (rh (yV d k))/\aoV w wr) (λ_ iv _=>n-(intOf iv).toNat)
 case atStart=>exact⟨0,none,0,0,rfl,rfl,by omega,by omega,fC _ _ _ _,aoV.refl _⟩
 case round=>
  obtain⟨k,R,rn,rc,rfl,rfl,hk,P0,hrow,cj⟩:=hrel;by_cases hlt:k<n
  .have yQ:(k:Int)<(n:Int):=by omega
   have aQ:aoV wr (wr.alloc (.cells #[.int .i64 k] 3)):=(aoV.refl wr).alloc _;have hca:(wr.alloc (.cells #[.int .i64 k] 3)).cell? ⟨wr.heap.size,0,none⟩=some (.int .i64 k):=aoW (bp wr (.cells #[.int .i64 k] 3)) 0;have ub:wr.heap.size<(wr.alloc (.cells #[.int .i64 k] 3)).heap.size:=by rw[fF];omega
   have P1:=cj.trans aQ;have Ha:=H.up P1;have Wg:=el hrow aQ;have c4:(wr.alloc (.cells #[.int .i64 k] 3)).cell? ⟨h.g,4,none⟩=some (.slice h.ta d.turns.length h.i6):=aoW Ha.hd 4;have Wh:=G3 67 #[.pointer (some ⟨wr.heap.size,0,none⟩)] (wH k) h.ta d.turns.length h.i6 d.turns (wr.alloc (.cells #[.int .i64 k] 3)) (Rd.own Ha.turns) (by omega) (λ_ _=>rfl) (λW x hW=>G4 wr.heap.size k x W (cg ub hW.size) ((hW.cell (p:=⟨wr.heap.size,0,none⟩) ub).trans hca));have Hv:=aoU Wh;clear Wh aQ cj hrow
   have hlb:Az d k=(d.turns.any (wH k)||(xU d.names k||xU d.cw k)):=rfl;have uc:=aoU hlb;clear hlb;go_upto_region 5 with fail
   generalize yW:wr.heap.size=qg at *;generalize cM:wr.alloc (.cells #[.int .i64 k] 3)=wa at *;clear cM;go_wp2_with fail;refine Hv.out.mono ?_;rintro e wb⟨rfl,aX⟩;clear Hv c4;have Hb:=Ha.up aX;have LF:=P1.trans aX;have P2:=el Wg aX;have hcb:=(aX.cell (p:=⟨qg,0,none⟩) ub).trans hca;have hgb:qg<wb.heap.size:=cg ub aX.size;have c2:wb.cell? ⟨h.g,2,none⟩=some (.map (some h.nb)):=aoW Hb.hd 2;have c3:wb.cell? ⟨h.g,3,none⟩=some (.map (some h.lb)):=aoW Hb.hd 3;have cN:w.heap.size<=wb.heap.size:=LF.size;clear Ha Wg hca ub aX P1
   generalize d.turns.any (wH k)=m1 at *;cases m1 with
   |true=>
    have iy:Az d k=true:=by rw[uc.out];rfl
    have yX:=aoU iy;clear iy;have aL:Rd ((wb).alloc (.cells #[.int .i64 k] 3)) ((wb).alloc (.cells #[.int .i64 k] 3)).heap.size 1 (some ⟨(wb).heap.size,0,none⟩) 1 (rh [k]):=Rd.box (wb) (.int .i64 k) 3;have AA:=el P2 ((aoV.refl wb).alloc (.cells #[.int .i64 k] 3));have AB:=(LF).trans ((aoV.refl wb).alloc (.cells #[.int .i64 k] 3));have Hw:w.heap.size<=((wb).alloc (.cells #[.int .i64 k] 3)).heap.size:=AB.size
    go_wp2_with (at_builtin;refine iF _ apx (news:=rh [k]) AA aL (PZ _) (by omega) (by omega) Hw rfl rfl rfl rfl ?_;intro v3 cH lD fW t8;obtain⟨pC,sV,rfl⟩:=eL lD)
    go_roundw
    case rel=>
     refine⟨k+1,pC,rn+1,sV,by go_num,rfl,by omega,by omega,?_,AB.grown fW (λg hg=>(AA.lt g hg).1)⟩;rw[oN.out,if_pos yX.out];unfold rh at lD|-;rw[kU];exact lD
    case measure=>simp[intOf];omega
   |false=>
    have hc1:=apM h.nb _ d.files.length qg k d.names wb Hb.names hok.nm hgb hcb;have mN:=aoU hc1;clear hc1;go_wp2_with fail;refine mN.out.mono ?_;rintro e wc⟨rfl,EH⟩;clear mN c2 c3;have Hc:=Hb.up EH;have LG:=LF.trans EH;have P3:=el P2 EH;have fK:=(EH.cell (p:=⟨qg,0,none⟩) hgb).trans hcb;have yY:qg<wc.heap.size:=cg hgb EH.size;have c3:wc.cell? ⟨h.g,3,none⟩=some (.map (some h.lb)):=aoW Hc.hd 3;have Ao:w.heap.size<=wc.heap.size:=LG.size;clear Hb P2 hcb hgb EH LF cN;generalize xU d.names k=m2 at *;cases m2 with
    |true=>
     have iy:Az d k=true:=by rw[uc.out];rfl
     have yX:=aoU iy;clear iy;have aL:Rd ((wc).alloc (.cells #[.int .i64 k] 3)) ((wc).alloc (.cells #[.int .i64 k] 3)).heap.size 1 (some ⟨(wc).heap.size,0,none⟩) 1 (rh [k]):=Rd.box (wc) (.int .i64 k) 3;have AA:=el P3 ((aoV.refl wc).alloc (.cells #[.int .i64 k] 3));have AB:=(LG).trans ((aoV.refl wc).alloc (.cells #[.int .i64 k] 3));have Hw:w.heap.size<=((wc).alloc (.cells #[.int .i64 k] 3)).heap.size:=AB.size
     go_wp2_with (at_builtin;refine iF _ apx (news:=rh [k]) AA aL (PZ _) (by omega) (by omega) Hw rfl rfl rfl rfl ?_;intro v3 cH lD fW t8;obtain⟨pC,sV,rfl⟩:=eL lD)
     go_roundw
     case rel=>
      refine⟨k+1,pC,rn+1,sV,by go_num,rfl,by omega,by omega,?_,AB.grown fW (λg hg=>(AA.lt g hg).1)⟩;rw[oN.out,if_pos yX.out];unfold rh at lD|-;rw[kU];exact lD
     case measure=>simp[intOf];omega
    |false=>
     have hc1:=apM h.lb _ d.files.length qg k d.cw wc Hc.cw hok.la yY fK;have mN:=aoU hc1;clear hc1;go_wp2_with fail;refine mN.out.mono ?_;rintro e xV⟨rfl,LH⟩;clear mN c3;have P4:=LG.trans LH;have Wi:=el P3 LH;have hce:=(LH.cell (p:=⟨qg,0,none⟩) yY).trans fK;have amw:w.heap.size<=xV.heap.size:=P4.size;clear Hc P3 fK yY LH LG Ao;generalize xU d.cw k=m3 at *;cases m3 with
     |true=>
      have iy:Az d k=true:=by rw[uc.out];rfl
      have yX:=aoU iy;clear iy;have aL:Rd ((xV).alloc (.cells #[.int .i64 k] 3)) ((xV).alloc (.cells #[.int .i64 k] 3)).heap.size 1 (some ⟨(xV).heap.size,0,none⟩) 1 (rh [k]):=Rd.box (xV) (.int .i64 k) 3;have AA:=el Wi ((aoV.refl xV).alloc (.cells #[.int .i64 k] 3));have AB:=(P4).trans ((aoV.refl xV).alloc (.cells #[.int .i64 k] 3));have Hw:w.heap.size<=((xV).alloc (.cells #[.int .i64 k] 3)).heap.size:=AB.size
      go_wp2_with (at_builtin;refine iF _ apx (news:=rh [k]) AA aL (PZ _) (by omega) (by omega) Hw rfl rfl rfl rfl ?_;intro v3 cH lD fW t8;obtain⟨pC,sV,rfl⟩:=eL lD)
      go_roundw
      case rel=>
       refine⟨k+1,pC,rn+1,sV,by go_num,rfl,by omega,by omega,?_,AB.grown fW (λg hg=>(AA.lt g hg).1)⟩;rw[oN.out,if_pos yX.out];unfold rh at lD|-;rw[kU];exact lD
      case measure=>simp[intOf];omega
     |false=>
      have iy:¬Az d k=true:=by rw[uc.out];decide
      have yX:=aoU iy;clear iy;go_wp2_with fail;go_roundw
      case rel=>
       refine⟨k+1,R,rn,rc,by go_num,rfl,by omega,by omega,?_,P4⟩;rw[oN.out,if_neg yX.out];exact Wi
      case measure=>simp[intOf];omega
  .have yQ:¬(k:Int)<(n:Int):=by omega
   have hkn:k=n:=by omega
   have fV:=aoU hkn;clear hkn;go_wp2_with fail;go_ret;refine⟨R,rn,rc,rfl,?_,cj⟩;unfold mx;rw[<- ff.out,<- fV.out];exact hrow
def LI(l:List Int):List Value:=l.map λx=> .int .i64 x
def qi(x:iG):Nat:=x.b.length-x.last
def mO(x:iG)(v:Int):iG:=⟨x.b.take (x.last+(v%((qi x:Int)+1)).toNat),x.last+(v%((qi x:Int)+1)).toNat⟩
def lE:List Nat->List iG->List Int->List iG×List Int
 | [],fs,keep=>(fs,keep)
 |i::r,fs,keep=>if qi (fs.getD i ⟨[],0⟩)=0 then lE r fs keep else lE r (fs.set i (mO (fs.getD i ⟨[],0⟩) (keep.headD (qi (fs.getD i ⟨[],0⟩):Int)))) keep.tail
def EI(v:Int):Bool:=bits .and .i64 v 1==0
def qj:List eo->ed->List Int->ed×List Int
 | [],D,keep=>(D,keep)
 |t::r,D,keep=>qj r (if EI (keep.headD 0)=true then ju t D else D) keep.tail
def CD(d:aV)(keep:List Int):aV:=
 { d with
  files:=(lE (mx d) d.files keep).1
  names:=(qj d.turns d.cw (lE (mx d) d.files keep).2).1
  cw:=(qj d.turns d.cw (lE (mx d) d.files keep).2).1
  turns:= []
  dead:=false
  stop:=0
  fail:=0 }
theorem q8{x:iG}(v:Int)(h:x.b.length<=250000/\x.last<=x.b.length):(mO x v).b.length<=250000/\(mO x v).last=(mO x v).b.length/\x.last+(v%((qi x:Int)+1)).toNat<=x.b.length:=by
 have h1:0<=v%((qi x:Int)+1):=Int.emod_nonneg _ (by omega);have h2:v%((qi x:Int)+1)<(qi x:Int)+1:=Int.emod_lt_of_pos _ (by omega);unfold qi at *;unfold mO qi;simp only[kT];omega
theorem Rd.Rc{w:World}{B n:Nat}{A:Option Addr}{l:List Int}(h:Rd w B 1 A n (LI l)):n=l.length:=by have:=h.1;simp[LI] at this;omega
theorem Wj:prog.elem 67=3:=by kernel_rfl
theorem Re(W:World)(A:Option Addr)(n c:Nat)(h1:1<=n):
 (Instr.slice 67 (.slice A n c) (some (.int .i64 1)) none none).run prog W= .ok (.slice (kH A c 1 1) (n-1) (c-1)) W:=by
 rw[run_slice_l W 67 A n c (by rw[Wj];exact underlying67) .i64 1 (by omega) (by omega),Wj];have hs:∀w:World,(sizeOf 3).run prog w= .ok 1 w:=λw=>by
  obtain⟨_,⟨i,z,hi,_,hs,_⟩,_⟩:=apx;simp[sizeOf,typeInfo,hi,hs]
 rw[hs];simp[sliced,kH]
structure tf(gk:Nat)(l:List Int)(A:Option Addr)(n c:Nat)(w:World):Prop where
 blk:w.heap[gk]?=some (.cells #[.slice A n c] 67 (0,0))
 rd:Rd w w.heap.size 1 A n (LI l)
 apl:n<=c
 ne:0<n->∀a,A=some a->a.block≠gk
theorem tf.kt{gk:Nat}{l:List Int}{A:Option Addr}{n c:Nat}{w w':World}{X:Nat->Prop}(h:tf gk l A n c w)(hK:V.af X w w')(h1:¬X gk)(h2:0<n->∀a,A=some a->¬X a.block):tf gk l A n c w':=
 ⟨(hK.block _ (aB h.blk) h1).trans h.blk,h.rd.sW (aZ _) h2 hK,h.apl,h.ne⟩
theorem tf.up{gk:Nat}{l:List Int}{A:Option Addr}{n c:Nat}{w w':World}(h:tf gk l A n c w)(hu:aoV w w'):tf gk l A n c w':=
 ⟨(fP hu h.blk),h.rd.up hu,h.apl,h.ne⟩
theorem Wk{gk:Nat}{l:List Int}{A:Option Addr}{n c:Nat}{w:World}(H:tf gk l A n c w)(hn:n<=9223372036854775807)(dv:Int):
 Calls prog 37 #[.int .i64 dv,.pointer (some ⟨gk,0,none⟩)] w λe w'=>∃A' n' c',e= .returned (.int .i64 (l.headD dv))/\tf gk l.tail A' n' c' w'/\n'<=n/\(∀a',A'=some a'->∃a,A=some a/\a.block=a'.block)/\V.af (λk=>k=gk) w w':=by
 have hc:=aoW H.blk 0;replace hc:w.cell? ⟨gk,0,none⟩=some (.slice A n c):=hc;have hz:=ay H.blk 0;have hl:=H.rd.Rc;cases l with
 |nil=>
  have hn0:n=0:=by simpa using hl
  subst hn0;clear hl;go_enter func37,ntmps37
  go_wp2_with fail;go_ret;exact⟨A,0,c,rfl,H,aZ _,λa' nM=>⟨a',nM,rfl⟩,V.af.refl _ _⟩
 |cons x r=>
  have fj:1<=n:=by rw[hl];simp
  obtain⟨b,o,rfl,hb,hcell⟩:=H.rd.2 (by omega);have hc0:=hcell 0 (.int .i64 x) rfl;rw[Nat.add_zero] at hc0;clear hcell;have i1:(0:Int)<(n:Int):=by omega
  have amx:((n:Int)==0)=false:=by rw[beq_eq_false_iff_ne];omega
  have CG:=λW=>Re W (some ⟨b,o,none⟩) n c fj
  have xW:b≠gk:=H.ne (by omega) _ rfl;have hfr:=H.rd.from_ (k:=1) (cap:=c) fj H.apl;have bC:=bM w gk 0 (.slice (kH (some ⟨b,o,none⟩) c 1 1) (n-1) (c-1)) _ _ H.blk;have hK:V.af (λk=>k=gk) w (w.setCell ⟨gk,0,none⟩ (.slice (kH (some ⟨b,o,none⟩) c 1 1) (n-1) (c-1))):=aoZ _ _ _ _ _ (V.af.refl _ _);have LJ:∀a',kH (some ⟨b,o,none⟩) c 1 1=some a'->a'.block=b:=λa' nM=>by
   unfold kH at nM;split at nM
   .injection nM with nM;subst nM;rfl
   .simp only[Option.map_some,Option.some.injEq] at nM;subst nM;unfold Addr.add;split <;>rfl
  have core:tf gk r (kH (some ⟨b,o,none⟩) c 1 1) (n-1) (c-1) (w.setCell ⟨gk,0,none⟩ (.slice (kH (some ⟨b,o,none⟩) c 1 1) (n-1) (c-1))):=by
   refine⟨bC,?_,by have:=H.apl;omega,λ_ a' nM=>by rw[LJ a' nM];exact xW⟩;refine Rd.kt (w:=w) ?_ (aZ _) (λa' nM e=>xW (by rw[<- LJ a' nM];exact e)) hK;have h9:=hfr;rw[Nat.mul_one] at h9;exact h9
  have bh:=aoU core;have fV:=aoU hK;have iw:=aoU LJ;clear bC hfr core hK hl LJ;go_enter func37,ntmps37
  go_wp2_with fail;go_ret;exact⟨_,_,_,rfl,bh.out,Nat.sub_le _ _,λa' nM=>⟨⟨b,o,none⟩,rfl,(iw.out a' nM).symm⟩,fV.out⟩
def dK:List UInt8:= [108,111,103,46,49]
def cT:List UInt8:= [109,97,110,46,49]
def ao3:List UInt8:= [99,117,114,114,101,110,116]
def lf:List UInt8:= [99,117,114,114,101,110,116,46,116,109,112]
def LK:ed:=(.map []:ed).put (cC dK) (fp 0)
def CH:ed:=LK.put (cC cT) (fp 1)
def th:ed:=CH.put (cC lf) (fp 2)
def jJ:ed:=ju ⟨2,0,lf,ao3⟩ th
def fg(am:List UInt8)(ll:Nat)(mn:List UInt8)(ml:Nat)(hd:List UInt8)(cs:Nat):aV:=⟨1048576,[⟨am,ll⟩,⟨mn,ml⟩,⟨hd,hd.length⟩],jJ,jJ,[],cs,false,0,0⟩
theorem LL:jJ= .map [(cC ao3,fp 2),(cC dK,fp 0),(cC cT,fp 1)]:=by rfl
theorem EJ:Maps.has jJ (cC dK)=true/\nF jJ dK=0:=⟨by rfl,by rfl⟩
theorem EK:Maps.has jJ (cC cT)=true/\nF jJ cT=1:=⟨by rfl,by rfl⟩
theorem Wl:Maps.has jJ (cC ao3)=true/\nF jJ ao3=2:=⟨by rfl,by rfl⟩
theorem Wm:mw jJ 3:=by
 have h0:mw (.map []:ed) 0:=⟨Maps.tidy_empty,λkl hk=>by simp[Maps.has] at hk⟩
 have h1:mw LK 3:=(h0.more (m:=3) (by omega)).put (by omega) dK;have h2:mw CH 3:=h1.put (by omega) cT;have h3:mw th 3:=h2.put (by omega) lf;exact PS h3 ⟨2,0,lf,ao3⟩ (λe=>by cases e)
section
variable(am:List UInt8)(ll:Nat)(mn:List UInt8)(ml:Nat)(hd:List UInt8)(cs:Nat)
theorem Wn:rN (fg am ll mn ml hd cs)=hd.length+(am.length+(mn.length+0)):=by
 show EA [⟨am,ll⟩,⟨mn,ml⟩,⟨hd,hd.length⟩] jJ=_;rw[LL];rfl
theorem AC(h1:am.length<=250000)(h2:ll<=am.length)(h3:mn.length<=250000)(h4:ml<=mn.length)(h5:hd.length<=250000):dx (fg am ll mn ml hd cs) where
 nm:=Wm
 la:=Wm
 tn:=λt ht=>by cases ht
 nf:=by show 3<=_;omega
 Al:=by show 0<=_;omega
 nG:=by show Maps.size jJ<=_;rw[LL];decide
 sl:=by show Maps.size jJ<=_;rw[LL];decide
 fb:=λf hf=>by
  simp only[fg,List.mem_cons,List.not_mem_nil,or_false] at hf;rcases hf with rfl|rfl|rfl
  .exact⟨h1,h2⟩
  .exact⟨h3,h4⟩
  .exact⟨h5,aZ _⟩
 s:=by show 0<=_;omega
 f:=by show 0<=_;omega
 q:=by show 1048576<=_;omega
theorem LM(L:List (List UInt8))(h:L.all j8=true):ao1 L (fg am ll mn ml hd cs)=(fg am ll mn ml hd (cs+1),0):=by
 unfold ao1;rw[if_pos h];rfl
theorem gX(b:List UInt8)(hb:am.length+b.length<=200000)(hm:mn.length<=100000)(hh:hd.length<=1000):ia (fg am ll mn ml hd cs) dK b=(fg (am++b) ll mn ml hd (cs+1),0):=by
 have hf:kI (fg am ll mn ml hd cs) dK=some 0:=by
  show(if Maps.has jJ (cC dK)=true then some (nF jJ dK) else none)=_;rw[if_pos EJ.1,EJ.2]
 have hq:(fg am ll mn ml hd cs).eA=1048576:=rfl;have hx:fileOf (fg am ll mn ml hd cs) 0=⟨am,ll⟩:=rfl;unfold ia;rw[LM _ _ _ _ _ _ [dK] (by decide),hf];dsimp only;rw[if_neg (by simp),hx,hq,Wn,if_neg (by dsimp only;omega),if_neg (by omega)];rfl
theorem j9(b:List UInt8)(hb:mn.length+b.length<=100000)(hm:am.length<=200000)(hh:hd.length<=1000):ia (fg am ll mn ml hd cs) cT b=(fg am ll (mn++b) ml hd (cs+1),0):=by
 have hf:kI (fg am ll mn ml hd cs) cT=some 1:=by
  show(if Maps.has jJ (cC cT)=true then some (nF jJ cT) else none)=_;rw[if_pos EK.1,EK.2]
 have hq:(fg am ll mn ml hd cs).eA=1048576:=rfl;have hx:fileOf (fg am ll mn ml hd cs) 1=⟨mn,ml⟩:=rfl;unfold ia;rw[LM _ _ _ _ _ _ [cT] (by decide),hf];dsimp only;rw[if_neg (by simp),hx,hq,Wn,if_neg (by dsimp only;omega),if_neg (by omega)];rfl
theorem K7:ld (fg am ll mn ml hd cs) dK=(fg am am.length mn ml hd (cs+1),0):=by
 have hf:kI (fg am ll mn ml hd cs) dK=some 0:=by
  show(if Maps.has jJ (cC dK)=true then some (nF jJ dK) else none)=_;rw[if_pos EJ.1,EJ.2]
 unfold ld;rw[LM _ _ _ _ _ _ [dK] (by decide),hf];dsimp only;rw[if_neg (by simp)];rfl
theorem K8:ld (fg am ll mn ml hd cs) cT=(fg am ll mn mn.length hd (cs+1),0):=by
 have hf:kI (fg am ll mn ml hd cs) cT=some 1:=by
  show(if Maps.has jJ (cC cT)=true then some (nF jJ cT) else none)=_;rw[if_pos EK.1,EK.2]
 unfold ld;rw[LM _ _ _ _ _ _ [cT] (by decide),hf];dsimp only;rw[if_neg (by simp)];rfl
theorem y7:rP (fg am ll mn ml hd cs) dK=(am,0):=by
 have hf:kI (fg am ll mn ml hd cs) dK=some 0:=by
  show(if Maps.has jJ (cC dK)=true then some (nF jJ dK) else none)=_;rw[if_pos EJ.1,EJ.2]
 unfold rP;rw[if_neg (by decide),if_neg (by simp[fg]),hf];rfl
theorem x6:rP (fg am ll mn ml hd cs) cT=(mn,0):=by
 have hf:kI (fg am ll mn ml hd cs) cT=some 1:=by
  show(if Maps.has jJ (cC cT)=true then some (nF jJ cT) else none)=_;rw[if_pos EK.1,EK.2]
 unfold rP;rw[if_neg (by decide),if_neg (by simp[fg]),hf];rfl
theorem pq:rP (fg am ll mn ml hd cs) ao3=(hd,0):=by
 have hf:kI (fg am ll mn ml hd cs) ao3=some 2:=by
  show(if Maps.has jJ (cC ao3)=true then some (nF jJ ao3) else none)=_;rw[if_pos Wl.1,Wl.2]
 unfold rP;rw[if_neg (by decide),if_neg (by simp[fg]),hf];rfl
theorem Wo(fs:List iG)(h:∀i,qi (fs.getD i ⟨[],0⟩)=0):∀(L:List Nat)(keep:List Int),lE L fs keep=(fs,keep)
 | [],keep=>rfl
 |i::r,keep=>by unfold lE;rw[if_pos (h i)];exact Wo fs h r keep
theorem CR(keep:List Int):CD (fg am am.length mn mn.length hd cs) keep=fg am am.length mn mn.length hd cs:=by
 have h:∀L:List Nat,lE L (fg am am.length mn mn.length hd cs).files keep=((fg am am.length mn mn.length hd cs).files,keep):=λL=>Wo _ (λi=>by
  rcases i with _|_|_|i
  .exact Nat.sub_self _
  .exact Nat.sub_self _
  .exact Nat.sub_self _
  .rfl) L keep
 unfold CD;rw[h];rfl
end
end
section
open Go.RowKit
theorem apW{B:Nat}{K:aD}{w:World}(nd fr:Nat)(hn:nd<=6)(hf:fr<=1099511627776)(hB:B<=w.heap.size):
 Calls prog 35 #[.int .i64 nd,.int .u64 fr] w λe w'=>e= .returned (.tuple #[.pointer (some ⟨w.heap.size,0,none⟩),.int .i64 0])/\kj B w.heap.size nd fr fr K (λk=>k=w.heap.size) w'/\aoV w w':=by
 have n1:¬(nd:Int)<0:=by omega
 have n2:decide ((6:Int)<(nd:Int))=false:=by rw[iO];omega
 have n3:decide ((1099511627776:Int)<(fr:Int))=false:=by rw[iO];omega
 have cj:aoV w (w.alloc (.cells #[.int .i64 nd,.int .u64 0,.int .u64 0] 155)):=(aoV.refl w).alloc _;have hb:nj B w.heap.size 155 #[.int .i64 nd,.int .u64 0,.int .u64 0] K (λk=>k=w.heap.size) (w.alloc (.cells #[.int .i64 nd,.int .u64 0,.int .u64 0] 155)):=⟨bp w _,hB,λk=>Iff.rfl⟩
 have dz:=aoU hf;clear hf;go_enter func35,ntmps35
 go_wp2_with fail;generalize w.alloc (.cells #[.int .i64 nd,.int .u64 0,.int .u64 0] 155)=wa at *;obtain⟨b1,s1⟩:=Dm (i:=1) hb (.int .u64 fr);obtain⟨b2,s2⟩:=Dm (i:=2) b1 (.int .u64 fr);refine(MN w.heap.size 1 0 (fr:Int) wa (ux hb rfl) (ay hb.1 1)).mono ?_;rintro e w1⟨rfl,rfl⟩;go_wp2_with fail;refine(MN w.heap.size 2 0 (fr:Int) _ (ux b1 rfl) (ay b1.1 2)).mono ?_;rintro e w2⟨rfl,rfl⟩;go_wp2_with fail;refine dm (v:= .tuple #[.pointer (some ⟨w.heap.size,0,none⟩),.int .i64 0]) (by simp[results,results35,go_sem]) rfl ?_;refine⟨rfl,b2,?_⟩
 have hK:=ci s1.kept s2.kept;exact⟨hK.os.trans cj.os,hK.tape.trans cj.tape,hK.output.trans cj.output,bQ cj.size hK.size,λk hk=>(hK.block k (cg hk cj.size) (by omega)).trans (cj.block k hk)⟩
theorem apX{B g nd aR ls:Nat}{K X:aD}{w:World}(h:kj B g nd aR ls K X w):
 Calls prog 42 #[.pointer (some ⟨g,0,none⟩)] w λe w'=>e= .returned (.int .u64 aR)/\w'=w:=by
 have c1:w.cell? ⟨g,1,none⟩=some (.int .u64 aR):=ux h rfl;go_enter func42,ntmps42
 go_wp2_with fail;refine(Fo g 1 (aR:Int) w c1).mono ?_;rintro e w1⟨rfl,rfl⟩;go_wp2_with fail;go_ret;exact⟨rfl,rfl⟩
theorem acn{B g nd aR ls:Nat}{K X:aD}{w:World}(h:kj B g nd aR ls K X w):
 Calls prog 43 #[.pointer (some ⟨g,0,none⟩)] w λe w'=>e= .returned (.int .u64 ls)/\w'=w:=by
 have c1:w.cell? ⟨g,2,none⟩=some (.int .u64 ls):=ux h rfl;go_enter func43,ntmps43
 go_wp2_with fail;refine(Fo g 2 (ls:Int) w c1).mono ?_;rintro e w1⟨rfl,rfl⟩;go_wp2_with fail;go_ret;exact⟨rfl,rfl⟩
theorem aco{B g nd aR ls:Nat}{K X:aD}{w:World}(h:kj B g nd aR ls K X w)(aqf:Nat)(h1:ls<aqf)(h2:aqf<=1099511627776):
 Calls prog 46 #[.pointer (some ⟨g,0,none⟩),.int .u64 aqf] w λe w'=>e= .returned (.bool true)/\kj B g nd aR aqf K X w'/\aO K X w K X w':=by
 have c1:w.cell? ⟨g,2,none⟩=some (.int .u64 ls):=ux h rfl;have hz:=ay h.1 2;have i1:decide (aqf<=ls)=false:=by rw[iO];omega
 have i2:decide ((1099511627776:Int)<(aqf:Int))=false:=by rw[iO];omega
 have H1:=aoU h1;clear h1 h2;obtain⟨b2,s2⟩:=Dm (i:=2) h (.int .u64 aqf);go_enter func46,ntmps46
 go_wp2_with fail;refine(Fo g 2 (ls:Int) w c1).mono ?_;rintro e w1⟨rfl,rfl⟩;go_wp2_with fail;refine(MN g 2 (ls:Int) (aqf:Int) w1 c1 hz).mono ?_;rintro e w2⟨rfl,rfl⟩;go_wp2_with fail;go_ret;exact⟨rfl,b2,s2⟩
theorem acp(v:Nat)(w:World)(hv:v<=18446744073709551615):Calls prog 122 #[.int .u64 v] w λe w'=>e= .returned (.tuple #[.int .u64 ((v / 8:Nat):Int),.int .i64 ((v%8:Nat):Int)])/\w'=w:=by
 have e1:Int.tdiv (v:Int) 8=((v / 8:Nat):Int):=by rw[Int.tdiv_eq_ediv_of_nonneg (by omega)];omega
 have e2:Int.tmod (v:Int) 8=((v%8:Nat):Int):=by rw[Int.tmod_eq_emod_of_nonneg (by omega)];omega
 have bG:(v:Int) / 8=((v / 8:Nat):Int):=by omega
 have bT:(v:Int)%8=((v%8:Nat):Int):=by omega
 have w3:IntKind.i64.wrap ((v%8:Nat):Int)=((v%8:Nat):Int):=IntWalk.i64_in _ (by omega);have w4:IntKind.u64.wrap ((v / 8:Nat):Int)=((v / 8:Nat):Int):=IntWalk.u64_in _ (by omega);clear hv;generalize v / 8=q at *;generalize v%8=r at *;go_enter func122,ntmps122
 go_wp2_with fail;refine dm (v:= .tuple #[.int .u64 q,.int .i64 r]) (by simp[results,results122,go_sem]) rfl ?_;exact⟨rfl,rfl⟩
theorem Q6{B g nd aR ls:Nat}{K X:aD}{w:World}(h:kj B g nd aR ls K X w)(v:Nat)(hv:v<=18446744073709551615):
 Calls prog 76 #[.pointer (some ⟨g,0,none⟩),.int .u64 v] w λe w'=>e= .returned (.tuple #[])/\kj B g nd (xc aR v) ls K X w'/\aO K X w K X w':=by
 have Dn:=aoU (acp v w hv);obtain⟨x,hx⟩:=bB (xc aR v)
 have td:max (aR:Int) (min ((v / 8:Nat):Int) 1099511627776)=(x:Int):=by rw[hx];unfold xc;omega
 rw[<- hx];have ew:=aoU hx;clear hx hv;generalize v / 8=q at *;generalize v%8=r at *;have c1:∀W,kj B g nd aR ls K X W->Calls prog 69 #[.pointer (some ⟨g,1,none⟩)] W λe w'=>e= .returned (.int .u64 aR)/\w'=W:=λW hW=>Fo g 1 (aR:Int) W (ux hW rfl)
 have c2:∀W,kj B g nd aR ls K X W->Calls prog 64 #[.pointer (some ⟨g,1,none⟩),.int .u64 x] W λe w'=>e= .returned (.tuple #[])/\kj B g nd x ls K X w'/\V.af (λk=>k=g) W w':=λW hW=>by
  refine(MN g 1 (aR:Int) (x:Int) W (ux hW rfl) (ay hW.1 1)).mono ?_;rintro e w'⟨rfl,rfl⟩;have h3:=Dm (i:=1) hW (.int .u64 x);exact⟨rfl,h3.1,eQ h3.2.kept (λk hk=>(h.2.2 k).1 hk)⟩
 have acq:=aoU c1;have acr:=aoU c2;clear c1 c2;go_enter func76,ntmps76
 go_wp2_with fail;refine Dn.out.mono ?_;rintro e w2⟨rfl,rfl⟩;go_wp2_with fail;apply V.iE (λi vs W=>V.af (λk=>k=g) w2 W/\(i=0->kj B g nd aR ls K X W)/\(i=1->kj B g nd aR ls K X W)/\(i=2->kj B g nd x ls K X W)) (by kernel_rfl) (by kernel_rfl) (λvs=>⟨V.af.co (aoV.drew (aoV.refl w2)),λ_=>Dl h (aoV.drew (aoV.refl w2)),λe=>absurd e (by decide),λe=>absurd e (by decide)⟩)
 .intro aF aoX;iterate 6 (apply V.az.ok;intros;go_simp;rfl;rfl;go_frame)
  apply V.az.call (.int .u64 aR);rfl
  .intro vs ag hS cY ah;obtain⟨k1,aY,-⟩:=hS;go_simp;refine(acq.out ag (aY rfl)).mono ?_;rintro e ai⟨rfl,rfl⟩;exact ah.out _ ⟨k1,λe=>absurd e (by decide),λ_=>aY rfl,λe=>absurd e (by decide)⟩
  simp only[au,Nat.reduceAdd];iterate 1 (apply V.az.ok;intros;go_simp;rfl;rfl;go_frame)
  apply V.az.ok (v:= .int .u64 (min ((q:Nat):Int) 1099511627776))
  .intro i vs ag hS;go_simp
  .rfl
  simp only[au,Nat.reduceAdd];apply V.az.ok (v:= .int .u64 x)
  .intro i vs ag hS;go_simp
  .rfl
  simp only[au,Nat.reduceAdd];apply V.az.call (.tuple #[]);rfl
  .intro vs ag hS cY ah;obtain⟨k1,-,aY,-⟩:=hS;go_simp;refine(acr.out ag (aY rfl)).mono ?_;rintro e ai⟨rfl,H5,mM⟩;exact ah.out _ ⟨ci k1 mM,λe=>absurd e (by decide),λe=>absurd e (by decide),λ_=>H5⟩
  simp only[au,Nat.reduceAdd];apply V.az.fin;intro vs ag hS;obtain⟨k1,-,-,aY⟩:=hS;have cJ:=aY rfl;clear aY;refine aoX.out _ _ ?_;clear aoX
  (try dsimp only)
  go_wp2_with fail;exact bodyPost_end (kV rfl _ _ _) rfl ⟨rfl,cJ,eQ k1 (λk hk=>(h.2.2 k).2 hk),λk hk=> .inl hk,λ_ h=>h,λ_ h=> .inl h⟩
 .kernel_rfl
end
section
open Go.RowKit Go.Maps
section
variable{q:Nat}{s b:List UInt8}{last c:Nat}{amY:ed}{Tu:List eo}{aM:Nat}
end
def jD(fs:List iG)(N L:ed)(n9:List eo)(cs:Nat):aV:=⟨1048576,fs,N,L,n9,cs,false,0,0⟩
def Bt:eo:=⟨1,0,dK,[]⟩
def FK:eo:=⟨1,1,cT,[]⟩
def RR:eo:=⟨1,2,lf,[]⟩
def aeo:eo:=⟨2,0,lf,ao3⟩
def qH:iG:=⟨[],0⟩
def yp:ed:= .map []
theorem aep:CH= .map [(cC dK,fp 0),(cC cT,fp 1)]:=by rfl
theorem RT:th= .map [(cC lf,fp 2),(cC dK,fp 0),(cC cT,fp 1)]:=by rfl
section
variable(fs:List iG)(N L:ed)(n9:List eo)(cs:Nat)
theorem Na(l:List (List UInt8))(h:l.all j8=true):ao1 l (jD fs N L n9 cs)=(jD fs N L n9 (cs+1),0):=by
 unfold ao1;rw[if_pos h];rfl
theorem RU(s:List UInt8)(h1:j8 s=true)(h2:Maps.has N (cC s)=false)(h3:Maps.size N<64):mZ (jD fs N L n9 cs) s=(jD (fs++[qH]) (N.put (cC s) (fp fs.length)) L (n9++[⟨1,fs.length,s,[]⟩]) (cs+1),0):=by
 unfold mZ;rw[Na _ _ _ _ _ [s] (by simp[h1])];have hn:(jD fs N L n9 cs).names=N:=rfl;rw[hn,if_neg (by simp),if_neg (by simp[h2]),if_neg (by omega)];rfl
theorem w5(s b:List UInt8)(i:Nat)(h1:j8 s=true)(h2:Maps.has N (cC s)=true/\nF N s=i)(hb:(fs.getD i ⟨[],0⟩).b.length+b.length<=250000)(hu:EA fs N+b.length<=1048576):ia (jD fs N L n9 cs) s b=(jD (fs.set i ⟨(fs.getD i ⟨[],0⟩).b++b,(fs.getD i ⟨[],0⟩).last⟩) N L n9 (cs+1),0):=by
 have hf:kI (jD fs N L n9 cs) s=some i:=by
  show(if Maps.has N (cC s)=true then some (nF N s) else none)=_;rw[if_pos h2.1,h2.2]
 have hq:(jD fs N L n9 cs).eA=1048576:=rfl;have hx:fileOf (jD fs N L n9 cs) i=fs.getD i ⟨[],0⟩:=rfl;have yq:rN (jD fs N L n9 cs)=EA fs N:=rfl;unfold ia;rw[Na _ _ _ _ _ [s] (by simp[h1]),hf];dsimp only;rw[if_neg (by simp),hx,hq,yq,if_neg (by omega),if_neg (by omega)];rfl
theorem RV(s:List UInt8)(i:Nat)(h1:j8 s=true)(h2:Maps.has N (cC s)=true/\nF N s=i):ld (jD fs N L n9 cs) s=(jD (fs.set i ⟨(fs.getD i ⟨[],0⟩).b,(fs.getD i ⟨[],0⟩).b.length⟩) N L n9 (cs+1),0):=by
 have hf:kI (jD fs N L n9 cs) s=some i:=by
  show(if Maps.has N (cC s)=true then some (nF N s) else none)=_;rw[if_pos h2.1,h2.2]
 unfold ld;rw[Na _ _ _ _ _ [s] (by simp[h1]),hf];dsimp only;rw[if_neg (by simp)];rfl
theorem RK:wF (jD fs N L n9 cs)=(jD fs N N [] (cs+1),0):=by
 unfold wF;have e:iI (jD fs N L n9 cs)=(jD fs N L n9 (cs+1),0):=rfl;rw[e,if_neg (by simp)];rfl
theorem ap3(s:List UInt8)(h1:j8 s=true)(h2:Maps.has N (cC s)=false):rP (jD fs N L n9 cs) s=([],11):=by
 have hf:kI (jD fs N L n9 cs) s=none:=by
  show(if Maps.has N (cC s)=true then some (nF N s) else none)=_;rw[if_neg (by simp[h2])]
 unfold rP;rw[if_neg (by simp[h1]),if_neg (by simp[jD]),hf]
end
section
variable(b hd:List UInt8)(h1:b.length<=1000)(h2:hd.length<=1000)
def D0:aV:=sZ 1048576
def iR:aV:=jD [qH] LK yp [Bt] 1
def eN:aV:=jD [qH] LK yp [Bt] 2
def ik:aV:=jD [qH,qH] CH yp [Bt,FK] 3
def mL:aV:=jD [qH,⟨b,0⟩] CH yp [Bt,FK] 4
def mM:aV:=jD [qH,⟨b,b.length⟩] CH yp [Bt,FK] 5
def Hm:aV:=jD [qH,⟨b,b.length⟩,qH] th yp [Bt,FK,RR] 6
def RW:aV:=jD [qH,⟨b,b.length⟩,⟨hd,0⟩] th yp [Bt,FK,RR] 7
def RX:aV:=jD [qH,⟨b,b.length⟩,⟨hd,hd.length⟩] th yp [Bt,FK,RR] 8
def mI:aV:=jD [qH,⟨b,b.length⟩,⟨hd,hd.length⟩] th th [] 9
def RY:aV:=jD [qH,⟨b,b.length⟩,⟨hd,hd.length⟩] jJ th [aeo] 10
theorem aer:D0=jD [] yp yp [] 0:=by rfl
theorem d1:mZ D0 dK=(iR,0):=by rw[aer];exact RU _ _ _ _ _ dK (by decide) (by rfl) (by decide)
theorem d2:ld iR dK=(eN,0):=RV _ _ _ _ _ dK 0 (by decide) ⟨by rfl,by rfl⟩
theorem d3:mZ eN cT=(ik,0):=RU _ _ _ _ _ cT (by decide) (by rfl) (by decide)
include h1 in
theorem d4:ia ik cT b=(mL b,0):=w5 _ _ _ _ _ cT b 1 (by decide) ⟨by rfl,by rfl⟩ (by show 0+b.length<=_;omega) (by
 have e:EA [qH,qH] CH=0:=by rw[aep];rfl
 rw[e];omega)
theorem d5:ld (mL b) cT=(mM b,0):=RV _ _ _ _ _ cT 1 (by decide) ⟨by rfl,by rfl⟩
theorem aes:rP (mM b) lf=([],11):=ap3 _ _ _ _ _ lf (by decide) (by rfl)
theorem d6:mZ (mM b) lf=(Hm b,0):=RU _ _ _ _ _ lf (by decide) (by rfl) (by decide)
include h1 h2 in
theorem d7:ia (Hm b) lf hd=(RW b hd,0):=w5 _ _ _ _ _ lf hd 2 (by decide) ⟨by rfl,by rfl⟩ (by show 0+hd.length<=_;omega) (by
 have e:EA [qH,⟨b,b.length⟩,qH] th=0+(0+(b.length+0)):=by rw[RT];rfl
 rw[e];omega)
theorem d8:ld (RW b hd) lf=(RX b hd,0):=RV _ _ _ _ _ lf 2 (by decide) ⟨by rfl,by rfl⟩
theorem d9:wF (RX b hd)=(mI b hd,0):=RK _ _ _ _ _
theorem d10:yU (mI b hd) lf ao3=(RY b hd,0):=by
 unfold yU mI;rw[Na _ _ _ _ _ [lf,ao3] (by decide)];have hn:∀fs:List iG,(jD fs th th [] 9).names=th:=λ_=>rfl
 rw[hn,if_neg (by simp),if_neg (by rw[RT];decide),if_neg (by decide)];rfl
theorem d11:wF (RY b hd)=(fg [] 0 b b.length hd 11,0):=RK _ _ _ _ _
end
theorem Nb:dx D0:=Ft (by decide)
theorem lg:dx iR:=by have h:=LC Nb dK (by decide) (by decide);rw[d1] at h;exact h
theorem me:dx eN:=by have h:=PP lg dK;rw[d2] at h;exact h
theorem ap4:dx ik:=by have h:=LC me cT (by decide) (by decide);rw[d3] at h;exact h
section
variable{b hd:List UInt8}(h1:b.length<=1000)(h2:hd.length<=1000)
include h1
theorem aeu:dx (mL b):=by have h:=PO ap4 cT b;rw[d4 b h1] at h;exact h
theorem RZ:dx (mM b):=by have h:=PP (aeu h1) cT;rw[d5] at h;exact h
theorem aev:dx (Hm b):=by have h:=LC (RZ h1) lf (by show 2<_;decide) (by show 2<_;decide);rw[d6] at h;exact h
include h2
theorem aew:dx (RW b hd):=by have h:=PO (aev h1) lf hd;rw[d7 b hd h1 h2] at h;exact h
theorem zq:dx (RX b hd):=by have h:=PP (aew h1 h2) lf;rw[d8] at h;exact h
theorem RE:dx (mI b hd):=by have h:=wh (zq h1 h2);rw[d9] at h;exact h
theorem aex:dx (RY b hd):=by have h:=oK (RE h1 h2) lf ao3 (by show 0<_;decide) (by show Maps.size th<_;rw[RT];decide);rw[d10] at h;exact h
end
end
end Go.Proofs.YtfghplfgndppfaaGreatDoor
