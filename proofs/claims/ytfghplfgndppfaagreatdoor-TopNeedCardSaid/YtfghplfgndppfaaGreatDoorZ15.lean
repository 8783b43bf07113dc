/- Texts of this claim, joined: DkW11, DkW12. -/
import Derived.StillTailTactics
import Derived.Test.YtfghplfgndppfaaGreatDoorZ14
set_option linter.unusedVariables false
set_option linter.unusedSimpArgs false
set_option maxRecDepth 100000
set_option maxHeartbeats 8000000
namespace Go.Proofs.YtfghplfgndppfaaGreatDoor
open Go.Proofs.Tryz
section
open Go.RowKit Go.Maps
theorem aeP{w:World}{base n c m:Nat}{e:TypeId}{A:Option Addr}{l:List UInt8}(h:w.ownsRow base e 1 (.slice A n c) n (cu l))(hm:m<=n):w.ownsRow base e 1 (.slice A m c) m (cu (l.take m)):=by
 have hl:l.length=n:=by have:=h.1;simp[cu] at this;omega
 rcases h.2 with⟨hv,hn⟩|⟨g,cap,cur,hv,hb,hh,hnc,hcm,hcs,Nc⟩
 .subst hn;have hm0:m=0:=by omega
  subst hm0;refine⟨by simp[cu],.inl ⟨hv,rfl⟩⟩
 .injection hv with e1 e2 bG;subst bG;refine⟨by simp[cu,hl];omega,.inr ⟨g,c,cur,by rw[e1],hb,hh,by omega,hcm,hcs,?_⟩⟩;have h9:cu (l.take m)=(cu l).take m:=by simp[cu,List.map_take]
  rw[h9,<- Nc,List.take_take]
  congr 1
  omega
theorem aeQ(W:World)(A:Option Addr)(n c m:Nat)(h1:m<=c):
 (Instr.slice 101 (.slice A n c) none (some (.int .i64 m)) none).run prog W= .ok (.slice A m c) W:=by
 rw[run_slice_h W 101 A n c (by rw[Li];exact underlying101) .i64 (m:Int) (by omega) (by omega),Li,Vo];have bT:∀a:Addr,a.add 0=a:=λa=>by unfold Addr.add;simp
 cases A <;>simp[sliced,bT]
structure xk(B:Nat)(h:cQ)(d:aV)(w:World)(gk:Nat)(P:Prop)(bj:Option Addr)(R:Option Addr)(rn rc:Nat)(fs:List iG)(keep:List Int)(A:Option Addr)(n c:Nat)(W:World):Prop where
 H:bD B h { d with files:=fs } W
 ok:dx { d with files:=fs }
 len:fs.length=d.files.length
 K:tf gk keep A n c W
 n1:n<=9223372036854775807
 rg:∀x∈keep,-9223372036854775808<=x/\x<=9223372036854775807
 oz:0<n->P
 sub:∀a',A=some a'->∃a,bj=some a/\a.block=a'.block
 row:W.ownsRow (w.heap.size+1) 3 1 (.slice R rn rc) rn (rh (mx d))
 kp:V.af (aJ h) w W
section
variable{P:Prop}{B:Nat}{h:cQ}{d:aV}{w:World}{gk:Nat}{bj R A:Option Addr}{rn rc n c:Nat}{fs:List iG}{keep:List Int}{W W':World}
theorem xk.up(I:xk B h d w gk P bj R rn rc fs keep A n c W)(hu:aoV W W'):xk B h d w gk P bj R rn rc fs keep A n c W':=
 ⟨I.H.up hu,I.ok,I.len,I.K.up hu,I.n1,I.rg,I.oz,I.sub,el I.row hu,af.sO I.kp (V.af.co hu)⟩
theorem xk.next(I:xk B h d w gk P bj R rn rc fs keep A n c W){A':Option Addr}{n' c':Nat}(xW:gk=w.heap.size)(hfl:∀k,aJ h k->k<w.heap.size)(K':tf gk keep.tail A' n' c' W')(hn:n'<=n)(hs:∀a',A'=some a'->∃a,A=some a/\a.block=a'.block)(hK:V.af (λk=>k=gk) W W'):
 xk B h d w gk P bj R rn rc fs keep.tail A' n' c' W':=
 ⟨I.H.kt hK (λk hk e=>by have:=hfl k hk;omega),I.ok,I.len,K',bQ hn I.n1,λx hx=>I.rg x (List.mem_of_mem_tail hx),λh0=>I.oz (by omega),λa' nM=>by
  obtain⟨a,ha,e⟩:=hs a' nM;obtain⟨a2,rS,e2⟩:=I.sub a ha;exact⟨a2,rS,e2.trans e⟩,px I.row hK (λk hk e=>by have:=(oI I.row hk).1;omega),⟨hK.os.trans I.kp.os,hK.tape.trans I.kp.tape,hK.output.trans I.kp.output,bQ I.kp.size hK.size,λk hk hx=>(hK.block k (cg hk I.kp.size) (by omega)).trans (I.kp.block k hk hx)⟩⟩
theorem xk.file(I:xk B h d w gk P bj R rn rc fs keep A n c W)(xW:gk=w.heap.size)(hfl:∀k,aJ h k->k<w.heap.size)(xl:P->∀a,bj=some a->¬aJ h a.block){i:Nat}{f:sN}{x:iG}{v:Int}(hf:h.aM[i]?=some f)(hx:fs[i]?=some x)(hb:W'.heap[f.g]?=some (.cells #[.slice f.A (mO x v).b.length f.c,.int .i64 ((mO x v).last:Int)] 103 (0,0)))(hK:V.af (λk=>k=f.g) W W'):
 xk B h d w gk P bj R rn rc (fs.set i (mO x v)) keep A n c W':=by
 have hF:=I.H.each i f x hf hx;have aeR:=I.ok.fb x (lW hx);obtain⟨q1,cP,dQ⟩:=q8 v aeR;have hfg:aJ h f.g:= .inr (.inr (.inr (.inr (.inr ⟨f,lW hf,.inl rfl⟩))));have aeS:gk≠f.g:=by have:=hfl _ hfg;omega
 have hown:fG W' B f.A (mO x v).b.length f.c (mO x v).b:=by
  refine px ?_ hK (λk hk e=>?_)
  .have h9:=aeP (m:=(mO x v).b.length) hF.own (by unfold mO;simp only[kT];omega);have h8:x.b.take (mO x v).b.length=(mO x v).b:=by
    unfold mO;simp only[kT];rw[Nat.min_eq_left dQ]
   rw[h8] at h9;exact h9
  .have h1:=jT hF.own hk;rw[e,ka hF.blk] at h1;exact absurd h1 (by decide)
 obtain⟨H3,ik⟩:=I.H.PJ (x':=mO x v) (A':=f.A) (c':=f.c) hf hx hb hown (af.weak hK (λk hk=> .inl hk)) (λk hk=> .inl hk);have bC:h.aM.set i ⟨f.g,f.A,f.c⟩=h.aM:=by
  obtain⟨hi,e⟩:=List.getElem?_eq_some_iff.1 hf;have:(⟨f.g,f.A,f.c⟩:sN)=h.aM[i]:=by rw[e]
  rw[this];exact List.set_getElem_self _
 rw[bC] at H3;refine⟨H3,PN I.ok i _ ⟨q1,Nat.le_of_eq cP⟩,by rw[List.length_set];exact I.len,I.K.kt hK aeS (λh0 a ha e=>?_),I.n1,I.rg,I.oz,I.sub,px I.row hK (λk hk e=>by have:=(oI I.row hk).1;have:=hfl _ hfg;omega),af.sO I.kp (af.weak hK (λk hk=>by subst hk;exact hfg))⟩;obtain⟨a2,rS,e2⟩:=I.sub a ha;exact xl (I.oz h0) a2 rS (by rw[e2,e];exact hfg)
end
structure tJ(B:Nat)(h:cQ)(d:aV)(w:World)(gk:Nat)(P:Prop)(bj:Option Addr)(fs:List iG)(j:Nat)(D:ed)(keep:List Int)(A:Option Addr)(n c:Nat)(W:World):Prop where
 H:bD B h { d with files:=fs,cw:=D } W
 M:mw D d.files.length
 sz:Maps.size D<=Maps.size d.cw+j
 K:tf gk keep A n c W
 n1:n<=9223372036854775807
 oz:0<n->P
 sub:∀a',A=some a'->∃a,bj=some a/\a.block=a'.block
 kp:V.af (aJ h) w W
section
variable{P:Prop}{B:Nat}{h:cQ}{d:aV}{w:World}{gk j:Nat}{D:ed}{bj A:Option Addr}{n c:Nat}{fs:List iG}{keep:List Int}{W W':World}
theorem tJ.up(I:tJ B h d w gk P bj fs j D keep A n c W)(hu:aoV W W'):tJ B h d w gk P bj fs j D keep A n c W':=
 ⟨I.H.up hu,I.M,I.sz,I.K.up hu,I.n1,I.oz,I.sub,af.sO I.kp (V.af.co hu)⟩
theorem tJ.more(I:tJ B h d w gk P bj fs j D keep A n c W):tJ B h d w gk P bj fs (j+1) D keep A n c W:=⟨I.H,I.M,by have:=I.sz;omega,I.K,I.n1,I.oz,I.sub,I.kp⟩
theorem tJ.next(I:tJ B h d w gk P bj fs j D keep A n c W){A':Option Addr}{n' c':Nat}(xW:gk=w.heap.size)(hfl:∀k,aJ h k->k<w.heap.size)(K':tf gk keep.tail A' n' c' W')(hn:n'<=n)(hs:∀a',A'=some a'->∃a,A=some a/\a.block=a'.block)(hK:V.af (λk=>k=gk) W W'):
 tJ B h d w gk P bj fs j D keep.tail A' n' c' W':=
 ⟨I.H.kt hK (λk hk e=>by have:=hfl k hk;omega),I.M,I.sz,K',bQ hn I.n1,λh0=>I.oz (by omega),λa' nM=>by
  obtain⟨a,ha,e⟩:=hs a' nM;obtain⟨a2,rS,e2⟩:=I.sub a ha;exact⟨a2,rS,e2.trans e⟩,⟨hK.os.trans I.kp.os,hK.tape.trans I.kp.tape,hK.output.trans I.kp.output,bQ I.kp.size hK.size,λk hk hx=>(hK.block k (cg hk I.kp.size) (by omega)).trans (I.kp.block k hk hx)⟩⟩
theorem tJ.aeT(I:tJ B h d w gk P bj fs j D keep A n c W)(xW:gk=w.heap.size)(hfl:∀k,aJ h k->k<w.heap.size)(xl:P->∀a,bj=some a->¬aJ h a.block)(t:eo)(ht:t.kind=1->t.file<d.files.length){n':Nat}(hm:W'.ownsMap prog 9 (plainElem prog 3) h.lb n' (ju t D))(hK:V.af (λk=>k=h.lb) W W'):
 tJ B h d w gk P bj fs (j+1) (ju t D) keep A n c W':=by
 have hlb:aJ h h.lb:= .inr (.inr (.inl rfl));have eG:gk≠h.lb:=by have:=hfl _ hlb;omega
 obtain⟨H2,-⟩:=I.H.N3 (D':=ju t D) hK hm;refine⟨H2,PS I.M t ht,by have:=Wa I.M t;have:=I.sz;omega,I.K.kt hK eG (λh0 a ha e=>?_),I.n1,I.oz,I.sub,af.sO I.kp (af.weak hK (λk hk=>by subst hk;exact hlb))⟩;obtain⟨a2,rS,e2⟩:=I.sub a ha;exact xl (I.oz h0) a2 rS (by rw[e2,e];exact hlb)
theorem bD.aeU(H:bD B h d W){lb' n2:Nat}{eN:ed}(d':aV)(hd:W'.heap[h.g]?=some (.cells (iH d' { h with nb:=h.lb,lb:=lb',ta:=none,i6:=0 }) 91 (0,0)))(hK:V.af (λk=>k=h.g) W W')(e1:d'.files=d.files)(e2:d'.names=d.cw)(bG:d'.cw=eN)(bT:d'.turns= [])(m2:W'.ownsMap prog 9 (plainElem prog 3) lb' n2 eN)(hl:W.heap.size<=lb'):
 bD B { h with nb:=h.lb,lb:=lb',ta:=none,i6:=0 } d' W'/\dW h W { h with nb:=h.lb,lb:=lb',ta:=none,i6:=0 } W':=by
 have hx:∀k,k=h.g->kd W k=some (some 91):=λk hk=>by subst hk;exact ka H.hd
 have hf:=H.Hi hK (λk hk=>by rw[hx k hk];exact⟨by decide,by decide,by decide⟩);have hm:=H.Lz hK (λk hk=>by rw[hx k hk];simp);have hlb:=H.lt (k:=h.lb) (.inr (.inr (.inl rfl)));have hgb:=H.lt (k:=h.g) (.inl rfl);refine⟨⟨hd,H.base,by rw[e1];exact hf.1,by rw[e1];exact H.ly,by rw[e1];exact hf.2,H.apart,by rw[e2];exact hm.2,by rw[bG];exact GX m2,?_,⟨H.tZ.2,?_⟩,by rw[bT];exact fC _ _ _ _⟩,rfl,af.weak hK (λk hk=> .inl hk),λk hk=>?_⟩
 .show h.lb≠lb';omega
 .show B<=lb';omega
 .rcases hk with hk|hk|hk|hk|⟨a,ha,_⟩|hk
  .exact .inl (.inl hk)
  .exact .inl (.inr (.inr (.inl hk)))
  .have hk':k=lb':=hk;subst hk';exact .inr hl
  .exact .inl (.inr (.inr (.inr (.inl hk))))
  .cases ha
  .exact .inl (.inr (.inr (.inr (.inr (.inr hk)))))
end
theorem aeV{d:aV}{i k:Nat}(h:i∈yV d k):i<k:=by
 unfold yV at h;have:=(List.mem_filter.1 h).1
 rwa[List.mem_range] at this
theorem aeW(v m:Int)(hm:0<m):(0<=v.tmod m->v.tmod m=v%m)/\(v.tmod m<0->v.tmod m+m=v%m)/\ -m<v.tmod m/\v.tmod m<m:=by
 have h1:=Int.emod_nonneg v (show m≠0 by omega);have h2:=Int.emod_lt_of_pos v hm;have h3:=Int.emod_add_mul_ediv v m;have h4:=Int.tmod_add_mul_tdiv v m;have h5:v.tmod m<m:=Int.tmod_lt_of_pos v hm;have h6: -m<v.tmod m:=by
  have:=Int.tmod_lt_of_pos (-v) hm;rw[Int.neg_tmod] at this;omega
 have h7:v.tmod m-v%m=m*(v / m-v.tdiv m):=by rw[Int.mul_sub];omega
 have h8:v.tmod m-v%m<m:=by omega
 have h9: -(2*m)<v.tmod m-v%m:=by omega
 generalize v / m-v.tdiv m=q at h7;have hq1:q<1:=by
  by_cases hq:q<1;exact hq
  .have:m*1<=m*q:=Int.mul_le_mul_of_nonneg_left (by omega) (by omega);omega
 have eM: -2<q:=by
  by_cases hq: -2<q;exact hq
  .have:m*q<=m*(-2):=Int.mul_le_mul_of_nonneg_left (by omega) (by omega);omega
 have hq:q=0\/q= -1:=by omega
 refine⟨λh=>?_,λh=>?_,h6,h5⟩
 .rcases hq with rfl|rfl <;>omega
 .rcases hq with rfl|rfl <;>omega
theorem aeX{B:Nat}{h:cQ}{d:aV}{w:World}(H:bD B h d w)(hok:dx d)(bj:Option Addr)(n0 c0:Nat)(keep:List Int)(hr:Rd w w.heap.size 1 bj n0 (LI keep))(hnc:n0<=c0)(hn0:n0<=9223372036854775807)(uX:∀x∈keep,-9223372036854775808<=x/\x<=9223372036854775807)(xl:0<n0->∀a,bj=some a->¬aJ h a.block)(zz:0<n0->∀a,bj=some a->a.block<w.heap.size)(nw:∀t∈d.turns,t.a.length<=9223372036854775807/\t.b.length<=9223372036854775807):
 Calls prog 19 #[.pointer (some ⟨h.g,0,none⟩),.slice bj n0 c0] w λe w'=>∃h',e= .returned (.tuple #[])/\bD B h' (CD d keep) w'/\dW h w h' w':=by
 have ao6:aoV w (w.alloc (.cells #[.slice bj n0 c0] 67)):=(aoV.refl w).alloc _;have H0:=H.up ao6;have gm:tf w.heap.size keep bj n0 c0 (w.alloc (.cells #[.slice bj n0 c0] 67)):=⟨bp w _,hr.up ao6,hnc,λh0 a ha=>by have:=zz h0 a ha;omega⟩
 have Et:(w.alloc (.cells #[.slice bj n0 c0] 67)).heap.size=w.heap.size+1:=fF _ _;have hfl:∀k,aJ h k->k<w.heap.size:=λk hk=>(H.lt hk).2
 have Nf:=aoU hfl;have aeY:=aoU uX;have Dk:=aoU xl;have aeZ:=aoU nw;have Ng:=aoU Et;clear hfl uX xl zz nw hr hnc Et;go_enter func19,ntmps19
 go_wp2_with fail;refine(G7 H0 hok).mono ?_;rintro e w1⟨R,rn,rc,rfl,hrow,hu1⟩;rw[Ng.out] at hrow;have Sd:xk B h d w w.heap.size (0<n0) bj R rn rc d.files keep bj n0 c0 w1:=⟨H0.up hu1,hok,rfl,gm.up hu1,hn0,aeY.out,λh0=>h0,λa' nM=>⟨a',nM,rfl⟩,hrow,V.af.co (ao6.trans hu1)⟩
 have hrl:rn=(mx d).length:=by have:=hrow.1;rw[G5] at this;omega
 have jW:rn<=1000000:=by
  have h1:=Wf d d.files.length;have h2:=hok.nf;have h3:(mx d).length<=d.files.length:=h1;omega
 have X0:=aoU hrl;clear hrl hrow hu1 ao6 H0 gm;generalize k3:w.heap.size=gk at Sd|-;have Nh:=aoU k3;clear k3;go_wp2_with fail;go_loopw[16] (λiv wr=>∃(j:Nat)(fs:List iG)(kp:List Int)(A:Option Addr)(n c:Nat),iv= .int .i64 j/\j<=rn/\xk B h d w gk (0<n0) bj R rn rc fs kp A n c wr/\Hid (lE ((mx d).drop j) fs kp=lE (mx d) d.files keep)) (λiv _=>rn-(intOf iv).toNat)
 case atStart=>exact⟨0,d.files,keep,bj,n0,c0,rfl,Nat.zero_le _,Sd,rfl⟩
 case round=>
  obtain⟨j,fs,kp,A,n,c,rfl,hj,I,xR⟩:=hrel;clear Sd;by_cases hlt:j<rn
  .have yQ:(j:Int)<(rn:Int):=by omega
   have hjl:j<(mx d).length:=by have:=X0.out;omega
   obtain⟨i,hi⟩:∃i,(mx d)[j]?=some i:=⟨_,dh hjl⟩
   have hil:i<fs.length:=by
    have h1:=aeV (lW hi);rw[I.len];exact h1
   have AX:(mx d).drop j=i::(mx d).drop (j+1):=by
    rw[List.drop_eq_getElem_cons hjl];rw[dh hjl] at hi;injection hi with hi;rw[hi]
   obtain⟨am5,ae0,-,-⟩:=El I.row (by omega);subst ae0;obtain⟨ae1,ae2,Se,-,Je⟩:=(Rd.own I.row).2 (by omega);injection Se with Se;injection Se with ae3 ae4;subst ae3;subst ae4;have HC:=Je j (.int .i64 i) (by rw[rh,List.getElem?_map,hi];rfl);rw[dV] at HC;obtain⟨b,f,x,Ap,hf,hx,ae5,hF⟩:=PA I.H hil;replace hx:fs[i]?=some x:=hx;have c1:wr.cell? ⟨h.g,1,none⟩=some (.slice (some ⟨b,0,none⟩) fs.length h.fq):=by have:=aoW I.H.hd 1;rw[<- Ap];exact this
   have ii:(i:Int)<(fs.length:Int):=by omega
   have cm:=I.ok.fb x (lW hx);have d0:∀W,aoV wr W->W.cell? ⟨f.g,0,none⟩=some (.slice f.A x.b.length f.c):=λW hW=>(hW.cell (p:=⟨f.g,0,none⟩) (aB hF.blk)).trans (aoW hF.blk 0)
   have d1:∀W,aoV wr W->W.cell? ⟨f.g,1,none⟩=some (.int .i64 x.last):=λW hW=>(hW.cell (p:=⟨f.g,1,none⟩) (aB hF.blk)).trans (aoW hF.blk 1)
   have hS:∀W,aoV wr W->aoV wr W/\W.cell? ⟨f.g,0,none⟩=some (.slice f.A x.b.length f.c)/\W.cell? ⟨f.g,1,none⟩=some (.int .i64 x.last):=λW hW=>⟨hW,d0 W hW,d1 W hW⟩
   obtain⟨N,hN⟩:∃N:Nat,N=qi x:=⟨_,rfl⟩
   have Ni:(x.b.length:Int)-(x.last:Int)=(N:Int):=by rw[hN];unfold qi;omega
   have hNb:N<=250000:=by rw[hN];unfold qi;omega
   have hstep:lE ((mx d).drop j) fs kp=if N=0 then lE ((mx d).drop (j+1)) fs kp else lE ((mx d).drop (j+1)) (fs.set i (mO x (kp.headD (N:Int)))) kp.tail:=by
    rw[AX];have hg:fs.getD i ⟨[],0⟩=x:=by rw[oc,hx];rfl
    conv=>lhs;unfold lE
    rw[hg,hN]
   have hG:=aoU hstep;have ff:=aoU hN;have yS:=aoU hf;have ew:=aoU hx;have Nj:=aoU Ni;clear hstep hN hf hx Je AX hi Ap d0 d1 Ni;go_upto_region 6 with fail
   have Ni:=Nj.out;have ae6:IntKind.i64.wrap (N:Int)=(N:Int):=IntWalk.i64_in _ (by omega);clear c1 HC ae5;apply V.fQ _ (by kernel_rfl) (by kernel_rfl) hS
   .intro aF aoX;iterate 11 (apply V.aj.ok;intros;go_simp;rfl;rfl;go_frame)
    apply V.aj.fin [];intro vs w2 hK i7 hf;refine aoX.out _ _ ?_;clear aoX;have aq:=jR hK;have FN:=I.up aq;clear hK i7 hf hS I hF Ni ae6;by_cases Sf:N=0
    .have hb0:((N:Int)==0)=true:=by rw[beq_iff_eq];omega
     have hst:=hG.out;rw[if_pos Sf] at hst;have jo:Hid (lE ((mx d).drop (j+1)) fs kp=lE (mx d) d.files keep):=hst.symm.trans xR.out;clear hst hG Sf xR;go_wp2_with fail;go_roundw
     case rel=>exact⟨j+1,fs,kp,A,n,c,by go_num,by omega,FN,jo⟩
     case measure=>simp[intOf];omega
    .have hb0:((N:Int)==0)=false:=by rw[beq_eq_false_iff_ne];omega
     have hst:=hG.out;rw[if_neg Sf] at hst;have jo:Hid (lE ((mx d).drop (j+1)) (fs.set i (mO x (kp.headD (N:Int)))) kp.tail=lE (mx d) d.files keep):=hst.symm.trans xR.out;clear hst hG xR;go_wp2_with fail;refine(Wk FN.K FN.n1 (N:Int)).mono ?_;rintro e w3⟨rl,n3,c3,rfl,rQ,Bu,hs3,ao8⟩;have yu:=FN.next Nh.out.symm Nf.out rQ Bu hs3 ao8;have Bg: -9223372036854775808<=kp.headD (N:Int)/\kp.headD (N:Int)<=9223372036854775807:=by
      cases kp with
      |nil=>show _<=(N:Int)/\(N:Int)<=_;omega
      |cons y r=>exact FN.rg y (gN ..)
     have hkn:Hid (mO x (kp.headD (N:Int))=⟨x.b.take (x.last+((kp.headD (N:Int))%((N:Int)+1)).toNat),x.last+((kp.headD (N:Int))%((N:Int)+1)).toNat⟩):=by
      show _=_;unfold mO;rw[<- ff.out]
     clear hs3 ao8 rQ Bu FN;generalize kp.headD (N:Int)=v at *;obtain⟨Jf,Jg,ae7,ae8⟩:=aeW v ((N:Int)+1) (by omega);have Bo:=Int.emod_nonneg v (show(N:Int)+1≠0 by omega);have Zl:=Int.emod_lt_of_pos v (show(0:Int)<(N:Int)+1 by omega);obtain⟨K,hK⟩:∃K:Nat,v%((N:Int)+1)=(K:Int):=⟨(v%((N:Int)+1)).toNat,by omega⟩
     rw[hK] at Jf Jg Bo Zl;have Sg:=hkn.out;rw[hK,Int.toNat_natCast] at Sg;have DA:=aoU Sg;clear Sg hkn hK;have am6:¬((N:Int)+1=0):=by omega
     obtain⟨q,hq⟩:∃q:Int,q=v.tmod ((N:Int)+1):=⟨_,rfl⟩
     rw[<- hq] at Jf Jg ae7 ae8;have eM:v.tmod ((N:Int)+1)=q:=hq.symm;clear hq;have hF:=yu.H.each i f x yS.out ew.out;have hxl:=(yu.ok.fb x (lW ew.out))
     have am7:K<=N:=by omega
     have gj:N=x.b.length-x.last:=by have:=ff.out;unfold qi at this;exact this
     have ae9:x.last+K<=x.b.length:=by omega
     have hcap:x.b.length<=f.c:=sH hF.own;have FJ:=aoU gj;clear gj;obtain⟨M,ape⟩:∃M:Nat,M=x.last+K:=⟨_,rfl⟩
     rw[<- ape] at DA ae9;have hM1:(x.last:Int)+(K:Int)=(M:Int):=by omega
     have am8:IntKind.i64.wrap (M:Int)=(M:Int):=IntWalk.i64_in _ (by omega);have eT:=aoU ape;clear ape;have CG:=λW=>aeQ W f.A x.b.length f.c M (by omega)
     by_cases I0:q<0;case' pos=>
      have A0:q+((N:Int)+1)=(K:Int):=Jg I0;clear Jf Jg
     case' neg=>
      have A0:q=(K:Int):=Jf (by omega);clear Jf Jg;subst A0
     all_goals
      go_upto_region 11 with fail
      have Nk:∀W,V.af (λk=>k=f.g) w3.drew W->V.af (λk=>k=f.g) w3.drew W:=λW hW=>hW
      apply V.aps 15 _ (λg=>g=f.g) (λW=>W.heap[f.g]?=some (.cells #[.slice f.A x.b.length f.c,.int .i64 x.last] 103 (0,0))) rfl (by kernel_rfl) (by kernel_rfl) (by rintro g rfl;exact aB hF.blk) hF.blk (λv1 v2 h1 hs=>(hs.block f.g (aB h1) (.inr rfl)).trans h1) Nk
      .intro aF aoX;iterate 4 (apply V.aj.ok;intros;go_simp;rfl;rfl;go_frame)
       apply V.aj.yO [15]
       .intro vs ag i7 hf;obtain⟨hh,-⟩:=hf;have d0:ag.cell? ⟨f.g,0,none⟩=some (.slice f.A x.b.length f.c):=aoW hh 0;clear hh i7;go_simp
        with_reducible rfl
       .rfl
       simp only[au,Nat.reduceAdd];iterate 3 (apply V.aj.ok;intros;go_simp;rfl;rfl;go_frame)
       apply V.aj.yO [15]
       .intro vs ag i7 hf;obtain⟨hh,-⟩:=hf;have d1:ag.cell? ⟨f.g,1,none⟩=some (.int .i64 x.last):=aoW hh 1;clear hh i7;go_simp
        with_reducible rfl
       .rfl
       simp only[au,Nat.reduceAdd];iterate 2 (apply V.aj.ok;intros;go_simp;rfl;rfl;go_frame)
       iterate 3 (apply V.aj.ok;intros;go_simp;rfl;rfl;go_frame)
       apply V.aj.wo (λvs W=>W.heap[f.g]?=some (.cells #[.slice f.A M f.c,.int .i64 x.last] 103 (0,0))) (λ_ g=>g=f.g) [15] [15] [] (λvs vs' h=>⟨rfl,rfl⟩)
       .exact λvs v1 v2 h1 hs=>(hs.block f.g (aB h1) (.inr rfl)).trans h1
       .rfl
       .intro vs ag hK i7 hf am9 ah;obtain⟨hh,-⟩:=hf;have wW:ag.heap[f.g]?=some (.cells #[.slice f.A x.b.length f.c,.int .i64 x.last] 103 (0,0)):=hh;have t0:ag.cell? ⟨f.g,0,none⟩=some (.slice f.A x.b.length f.c):=aoW wW 0;have jd:=ay wW 0;have bC:=bM ag f.g 0 (.slice f.A M f.c) _ _ wW;have kK:V.af (λk=>k=f.g) ag (ag.setCell ⟨f.g,0,none⟩ (.slice f.A M f.c)):=aoZ _ _ _ _ _ (V.af.refl _ _);have dr:=aoU wW;clear hh wW;go_simp;refine ah.out undef _ bC (af.weak kK λy hy=>⟨15,fi.2 rfl,hy⟩) (λy hy=>?_);have hy2:y=f.g:=hy
        subst hy2;exact⟨cg (aB dr.out) kK.size,.inr ⟨15,fi.2 rfl,rfl⟩⟩
       simp only[au,Nat.reduceAdd];apply V.aj.fin [14];intro vs ai hK i7 hf;obtain⟨Nl,-⟩:=hf;refine aoX.out _ _ ?_;clear aoX i7;have Jh:ai.heap[f.g]?=some (.cells #[.slice f.A M f.c,.int .i64 x.last] 103 (0,0)):=Nl;have d0:ai.cell? ⟨f.g,0,none⟩=some (.slice f.A M f.c):=aoW Jh 0;have d1:ai.cell? ⟨f.g,1,none⟩=some (.int .i64 x.last):=aoW Jh 1;have iS:=ay Jh 1;have bC:=bM ai f.g 1 (.int .i64 M) _ _ Jh
       have ah:V.af (λk=>k=f.g) w3 (ai.setCell ⟨f.g,1,none⟩ (.int .i64 M)):=aoZ _ _ _ _ _ ⟨hK.os,hK.tape,hK.output,hK.size,hK.block⟩;have cn:(mO x v).b.length=M:=by rw[DA.out];simp only[kT];omega
       have hcm:(mO x v).last=M:=by rw[DA.out]
       have Nm:=yu.file Nh.out.symm Nf.out Dk.out (v:=v) yS.out ew.out (by rw[bC,cn,hcm];rfl) ah;have ae':=aoU Nm;clear bC ah cn hcm Nm hK Nl Jh hF yu Nk CG;go_wp2_with fail;go_roundw
       case rel=>exact⟨j+1,fs.set i (mO x v),kp.tail,rl,n3,c3,by go_num,by omega,ae'.out,jo⟩
       case measure=>simp[intOf];omega
      .kernel_rfl
   .kernel_rfl
  .have yQ:¬(j:Int)<(rn:Int):=by omega
   have hdone:lE (mx d) d.files keep=(fs,kp):=by
    have h9:=xR.out;rw[List.drop_of_length_le (by have:=X0.out;omega)] at h9;rw[<- h9];rfl
   have Bv:=aoU hdone;clear hdone xR;obtain⟨tn,htn⟩:=bB d.turns.length
   obtain⟨afa,Sh⟩:=bB h.ta
   have c4:wr.cell? ⟨h.g,4,none⟩=some (.slice afa tn h.i6):=by rw[htn,Sh];exact aoW I.H.hd 4
   have aqd:tn<=1000000:=by rw[htn];exact hok.Al
   have sx:tJ B h d w gk (0<n0) bj fs 0 d.cw kp A n c wr:=⟨I.H,hok.la,aZ _,I.K,I.n1,I.oz,I.sub,I.kp⟩
   have afb:=aoU I.len;have Lu:=aoU I.ok;have Nn:=aoU htn;have afc:=aoU Sh;clear htn Sh I;go_wp2_with fail;clear c4;go_loopw[79] (λiv wr=>∃(j:Nat)(D:ed)(qI:List Int)(A:Option Addr)(n c:Nat),iv= .int .i64 j/\j<=tn/\tJ B h d w gk (0<n0) bj fs j D qI A n c wr/\Hid (qj (d.turns.drop j) D qI=qj d.turns d.cw kp)) (λiv _=>tn-(intOf iv).toNat)
   case atStart=>exact⟨0,d.cw,kp,A,n,c,rfl,Nat.zero_le _,sx,rfl⟩
   case round=>
    obtain⟨j2,D,qI,A,n,c,rfl,hj2,I,hct⟩:=hrel;clear sx;have ana:w.heap.size<=wr.heap.size:=I.kp.size;by_cases iy:j2<tn
    .have afd:(j2:Int)<(tn:Int):=by omega
     have hjl:j2<d.turns.length:=by have:=Nn.out;omega
     have CM:Rd wr wr.heap.size 4 h.ta d.turns.length (j7 d.turns):=Rd.own I.H.turns;rw[<- afc.out,<- Nn.out] at CM;obtain⟨b,o,t,rfl,hb,ht,q0,q1,cP,dQ⟩:=CM.Wd iy Nn.out;have AX:d.turns.drop j2=t::d.turns.drop (j2+1):=by
      rw[List.drop_eq_getElem_cons hjl];rw[dh hjl] at ht;injection ht with ht;rw[ht]
     have hstep:qj (d.turns.drop j2) D qI=qj (d.turns.drop (j2+1)) (if EI (qI.headD 0)=true then ju t D else D) qI.tail:=by
      rw[AX];rfl
     have hG:=aoU hstep;have gx:=aoU (lW ht);clear hstep AX ht CM;go_upto_region 17 with fail
     clear q0 q1 cP dQ;have aQ:aoV wr (wr.alloc (.cells #[.int .i64 t.kind,.int .i64 t.file,.string (tx t.a),.string (tx t.b)] 105)):=(aoV.refl wr).alloc _;have CP:=bp wr (.cells #[.int .i64 t.kind,.int .i64 t.file,.string (tx t.a),.string (tx t.b)] 105);have No:=I.up aQ;have hgt:gk<wr.heap.size:=aB I.K.blk;clear I aQ;generalize wr.alloc (.cells #[.int .i64 t.kind,.int .i64 t.file,.string (tx t.a),.string (tx t.b)] 105)=wa at *;generalize wr.heap.size=gt at *;go_wp2_with fail;refine(Wk No.K No.n1 0).mono ?_
     rintro e w3⟨rl,n3,c3,rfl,rQ,Bu,hs3,ao8⟩;have yu:=No.next Nh.out.symm Nf.out rQ Bu hs3 ao8;have mQ:=(ao8.block gt (aB CP) (by omega)).trans CP;have vl:t.kind=1->t.file<d.files.length:=λh1=>(hok.tn t gx.out).elim id (λh2=>absurd h1 h2)
     have htl:=aeZ.out t gx.out;have AG:=hok.sl;have anb:=yu.sz;have hnf:=hok.nf;have Nd:=aoU vl;clear CP hs3 ao8 rQ Bu No vl;generalize qI.headD 0=DB at *;have hst:=hG.out;cases hev:EI DB with
     |true=>
      have fe:(bits .and .i64 DB 1==0)=true:=hev;rw[hev,if_pos rfl] at hst;have jo:Hid (qj (d.turns.drop (j2+1)) (ju t D) qI.tail=qj d.turns d.cw kp):=hst.symm.trans hct.out;clear hst hG hct hev;go_upto_region 18 with fail
      clear fe;obtain⟨q0,q1,cP,dQ⟩:=qb mQ;have bL:w3.cell? ⟨h.g,3,none⟩=some (.map (some h.lb)):=aoW yu.H.hd 3;have Np:=yu.up (aoV.drew (aoV.refl w3));go_still_tail 5,(by kernel_rfl)
      change wpList _ _ _ _ _ w3.drew
      generalize w3.drew=w4 at *;clear q0 q1 cP dQ bL yu mQ;go_wp2_with fail;refine(PT t h.lb (Maps.size D) d.files.length D w4 Np.H.cw (by omega) Np.M hnf (λh1=>by have:=Nd.out h1;omega) htl.1 htl.2).mono ?_;rintro e ai⟨rfl,⟨n',hm⟩,vi⟩;have Nm:=Np.aeT Nh.out.symm Nf.out Dk.out t Nd.out hm vi;clear Np hm vi;go_wp2_with fail;go_roundw
      case rel=>exact⟨j2+1,ju t D,qI.tail,rl,n3,c3,by go_num,by omega,Nm,jo⟩
      case measure=>simp[intOf];omega
     |false=>
      have fe:(bits .and .i64 DB 1==0)=false:=hev;rw[hev,if_neg (by decide)] at hst;have jo:Hid (qj (d.turns.drop (j2+1)) D qI.tail=qj d.turns d.cw kp):=hst.symm.trans hct.out;clear hst hG hct hev mQ;go_wp2_with fail;go_roundw
      case rel=>exact⟨j2+1,D,qI.tail,rl,n3,c3,by go_num,by omega,yu.more,jo⟩
      case measure=>simp[intOf];omega
    .have afd:¬(j2:Int)<(tn:Int):=by omega
     have ck:(qj d.turns d.cw kp).1=D:=by
      have h9:=hct.out;rw[List.drop_of_length_le (by have:=Nn.out;omega)] at h9;rw[<- h9];rfl
     have Ji:=aoU ck;clear ck hct;have Jj:wr.heap[h.g]?=some (.cells (iH { d with files:=fs,cw:=D } h) 91 (0,0)):=I.H.hd;have bL:wr.cell? ⟨h.g,3,none⟩=some (.map (some h.lb)):=aoW Jj 3;have c2:wr.cell? ⟨h.g,2,none⟩=some (.map (some h.nb)):=aoW Jj 2;have z2:=ay Jj 2;have Si:=bM wr h.g 2 (.map (some h.lb)) _ _ Jj;have lZ:(wr.setCell ⟨h.g,2,none⟩ (.map (some h.lb))).cell? ⟨h.g,2,none⟩=some (.map (some h.lb)):=by rw[aoW Si 2];simp[iH]
     have Sn:V.af (λk=>k=h.g) wr (wr.setCell ⟨h.g,2,none⟩ (.map (some h.lb))):=aoZ _ _ _ _ _ (V.af.refl _ _);have e3:=uS I.H.cw Sn (λe9=>by
      have h1:=As I.H.cw;rw[e9,ka I.H.hd] at h1;cases h1)
     go_wp2_with fail;refine(V9 h.lb _ D _ e3).mono ?_;rintro e ai⟨rfl,tK,cI⟩;have cl:(wr.setCell ⟨h.g,2,none⟩ (.map (some h.lb))).heap.size=wr.heap.size:=by simp[World.setCell]
     rw[cl] at tK|-;have qD:=(fP cI Si);have e2:=aoW qD 2;have bG:ai.cell? ⟨h.g,3,none⟩=some (.map (some h.lb)):=aoW qD 3;have s3:=ay qD 3;have bT:ai.cell? ⟨h.g,4,none⟩=some (.slice h.ta d.turns.length h.i6):=aoW qD 4;have dP:=ay qD 4;have jV:ai.cell? ⟨h.g,6,none⟩=some (.bool d.dead):=aoW qD 6;have iY:=ay qD 6;have kg:ai.cell? ⟨h.g,7,none⟩=some (.int .i64 d.stop):=aoW qD 7;have gK:=ay qD 7;have py:ai.cell? ⟨h.g,8,none⟩=some (.int .i64 d.fail):=aoW qD 8;have anc:=ay qD 8
     have bC:=bM _ h.g 8 (.int .i64 0) _ _ (bM _ h.g 7 (.int .i64 0) _ _ (bM _ h.g 6 (.bool false) _ _ (bM _ h.g 4 (.slice none 0 0) _ _ (bM ai h.g 3 (.map (some wr.heap.size)) _ _ qD))));have vi:V.af (λk=>k=h.g) ai (((((ai.setCell ⟨h.g,3,none⟩ (.map (some wr.heap.size))).setCell ⟨h.g,4,none⟩ (.slice none 0 0)).setCell ⟨h.g,6,none⟩ (.bool false)).setCell ⟨h.g,7,none⟩ (.int .i64 0)).setCell ⟨h.g,8,none⟩ (.int .i64 0)):=aoZ _ _ _ _ _ (aoZ _ _ _ _ _ (aoZ _ _ _ _ _ (aoZ _ _ _ _ _ (aoZ _ _ _ _ _ (V.af.refl _ _)))))
     have eG:=(I.H.lt (k:=h.g) (.inl rfl)).2;have hKr:V.af (λk=>k=h.g) wr (((((ai.setCell ⟨h.g,3,none⟩ (.map (some wr.heap.size))).setCell ⟨h.g,4,none⟩ (.slice none 0 0)).setCell ⟨h.g,6,none⟩ (.bool false)).setCell ⟨h.g,7,none⟩ (.int .i64 0)).setCell ⟨h.g,8,none⟩ (.int .i64 0)):=af.sO Sn (af.sO (V.af.co cI) vi);have qh:=uS tK vi (λe9=>by omega);obtain⟨jh,So⟩:=I.H.aeU (CD d keep) (lb':=wr.heap.size) (by
      rw[bC];simp[iH,CD,Bv.out,afb.out]) hKr (by show(lE _ _ _).1=fs;rw[Bv.out]) (by show(qj _ _ (lE _ _ _).2).1=D;rw[Bv.out];exact Ji.out) (by show(qj _ _ (lE _ _ _).2).1=D;rw[Bv.out];exact Ji.out) rfl qh (aZ _)
     have e4:dW h w { h with nb:=h.lb,lb:=wr.heap.size,ta:=none,i6:=0 } _:=⟨rfl,af.sO I.kp So.kept,λk hk=>(So.aJ k hk).imp id (λh9=>bQ I.kp.size h9)⟩
     have afe:=aoU jh;have aff:=aoU e4;clear bC vi hKr qh jh So e4 cI tK Sn e3 Si qD lZ z2 c2 bL Jj cl e2;go_wp2_with fail;exact bodyPost_end (kV rfl _ _ _) rfl ⟨_,rfl,afe.out,aff.out⟩
end
end Go.Proofs.YtfghplfgndppfaaGreatDoor
