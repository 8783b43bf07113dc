/- Texts of this claim, joined: LogW4, NdL, TpW20, TpW4, TpW5, TpW6, ClL, NdW4, NdW8, LogW3, LogW5, LogW6, LogW7, NdC1, SkW2, LogO, AppE, TpW11. -/
import Derived.Lib.MinMax
import Derived.BigFrame
import Derived.IntWalk
import Derived.Test.YtfghplfgndppfaaGreatDoorZ9
import Derived.Test.YtfghplfgndppfaaGreatDoorZ12
import Derived.Test.YtfghplfgndppfaaGreatDoorZ14
set_option linter.unusedVariables false
set_option linter.unusedSimpArgs false
set_option maxRecDepth 100000
set_option maxHeartbeats 8000000
namespace Go.Proofs.YtfghplfgndppfaaGreatDoor
open Go.Proofs.Tryz
section
open Go.RowKit Go.Maps
def mh(gl vh:Nat)(nm:List UInt8)(sz dA:Nat)(wQ:Bool)(w:World):Prop:=w.heap[gl]?=some (.cells #[.pointer (some ⟨vh,0,none⟩),.string (tx nm),.int .i64 sz,.int .i64 dA,.bool wQ] 264 (0,0))
theorem mh.lt{gl vh:Nat}{nm:List UInt8}{sz dA:Nat}{wQ:Bool}{w:World}(h:mh gl vh nm sz dA wQ w):gl<w.heap.size:=aB h
theorem mh.up{gl vh:Nat}{nm:List UInt8}{sz dA:Nat}{wQ:Bool}{w w':World}(h:mh gl vh nm sz dA wQ w)(hu:aoV w w'):mh gl vh nm sz dA wQ w':=(hu.block _ h.lt).trans h
theorem mh.keeps{gl vh:Nat}{nm:List UInt8}{sz dA:Nat}{wQ:Bool}{w w':World}{X:Nat->Prop}(h:mh gl vh nm sz dA wQ w)(hK:V.af X w w')(hx:¬X gl):mh gl vh nm sz dA wQ w':=(hK.block _ h.lt hx).trans h
theorem mh.Mf{gl vh:Nat}{nm:List UInt8}{sz dA:Nat}{wQ:Bool}{w:World}(h:mh gl vh nm sz dA wQ w):w.cell? ⟨gl,0,none⟩=some (.pointer (some ⟨vh,0,none⟩))/\w.cell? ⟨gl,1,none⟩=some (.string (tx nm)):=
 ⟨aoW (show w.heap[gl]?=_ from h) 0,aoW (show w.heap[gl]?=_ from h) 1⟩
structure lH(gl:Nat)(h:cQ)(w:World)(h':cQ)(w':World):Prop where
 g:h'.g=h.g
 kept:V.af (λk=>aJ h k\/k=gl) w w'
 aJ:∀k,aJ h' k->aJ h k\/w.heap.size<=k
theorem lH.up{gl:Nat}{h:cQ}{w w':World}(hu:aoV w w'):lH gl h w h w':=⟨rfl,V.af.co hu,λk hk=> .inl hk⟩
theorem lH.dk{gl:Nat}{h h':cQ}{w w':World}(D:dW h w h' w'):lH gl h w h' w':=⟨D.g,af.weak D.kept (λk hk=> .inl hk),D.aJ⟩
theorem lH.trans{gl:Nat}{h h' h'':cQ}{w w' w'':World}(x:lH gl h w h' w')(y:lH gl h' w' h'' w''):lH gl h w h'' w'':=by
 refine⟨y.g.trans x.g,⟨y.kept.os.trans x.kept.os,y.kept.tape.trans x.kept.tape,y.kept.output.trans x.kept.output,bQ x.kept.size y.kept.size,λk hk hx=>?_⟩,λk hk=>?_⟩
 .refine(y.kept.block k (cg hk x.kept.size) (λhf=>?_)).trans (x.kept.block k hk hx);rcases hf with hf|hf
  .rcases x.aJ k hf with h1|h1
   .exact hx (.inl h1)
   .omega
  .exact hx (.inr hf)
 .rcases y.aJ k hk with h1|h1
  .exact x.aJ k h1
  .exact .inr (bQ x.kept.size h1)
theorem lH.below{gl B:Nat}{h h':cQ}{d:aV}{w0 w w':World}(x:lH gl h w h' w')(H:bD B h d w)(hB:w0.heap.size<=B)(hg:w0.heap.size<=gl)(hu:aoV w0 w):aoV w0 w':=
 ⟨x.kept.os.trans hu.os,x.kept.tape.trans hu.tape,x.kept.output.trans hu.output,bQ hu.size x.kept.size,λk hk=>(x.kept.block k (cg hk hu.size) (λhf=>by
  rcases hf with hf|hf
  .have:=(H.lt hf).1;omega
  .omega)).trans (hu.block k hk)⟩
theorem lH.nf{gl:Nat}{h h':cQ}{w w':World}(x:lH gl h w h' w'){k:Nat}(hk:k<w.heap.size)(hn:¬Go.Proofs.YtfghplfgndppfaaGreatDoor.aJ h k):¬Go.Proofs.YtfghplfgndppfaaGreatDoor.aJ h' k:=λhf=>by
 rcases x.aJ k hf with h1|h1
 .exact hn h1
 .omega
def Qt(B:Nat)(h:cQ)(d:aV)(s:List UInt8)(w:World)(e:Ending)(w':World):Prop:=
 ∃h',bD B h' (mZ d s).1 w'/\dW h w h' w'/\
  ((
   (mZ d s).2=0/\∃gl,e= .returned (.tuple #[.pointer (some ⟨gl,0,none⟩),.int .i64 0])/\mh gl h.g s 0 0 false w'/\¬aJ h' gl/\w.heap.size<=gl)\/
   ((mZ d s).2≠0/\e= .returned (.tuple #[.pointer none,.int .i64 ((mZ d s).2:Int)])))
theorem abb{B:Nat}{h:cQ}{d:aV}{w:World}(H:bD B h d w)(hok:dx d)(cn:d.calls<=1000000000)(hnf:d.files.length<1000000)(hnt:d.turns.length<1000000)(s:List UInt8)(hs:s.length<=9223372036854775807):
 Calls prog 150 #[.pointer (some ⟨h.g,0,none⟩),.string (tx s)] w (Qt B h d s w):=by
 have hc:=V3 H hok cn hnf hnt s hs;obtain⟨d',E,hd⟩:∃a b,mZ d s=(a,b):=⟨_,_,rfl⟩
 have hpost:Qt B h d s w=λe w'=>∃h',bD B h' d' w'/\dW h w h' w'/\((E=0/\∃gl,e= .returned (.tuple #[.pointer (some ⟨gl,0,none⟩),.int .i64 0])/\mh gl h.g s 0 0 false w'/\¬aJ h' gl/\w.heap.size<=gl)\/(E≠0/\e= .returned (.tuple #[.pointer none,.int .i64 E]))):=by
  unfold Qt;rw[hd]
 rw[hd] at hc
 (try dsimp only at hc)
 have ib:=aoU hpost;have bh:=aoU hc;clear hpost hc hd;go_enter func150,ntmps150
 go_wp2_with fail;refine bh.out.mono ?_;rintro e w1⟨h1,rfl,H1,iR⟩;by_cases hE:E=0
 .have c1:((E:Int) !=0)=false:=by rw[bne_eq_false_iff_eq];omega
  have cj:aoV w1 (w1.alloc (.cells #[.pointer (some ⟨h.g,0,none⟩),.string (tx s),.int .i64 0,.int .i64 0,.bool false] 264)):=(aoV.refl w1).alloc _;go_wp2_with fail;refine dm (v:= .tuple #[.pointer (some ⟨w1.heap.size,0,none⟩),.int .i64 0]) (by simp[results,results150,go_sem]) rfl ?_;rw[ib.out];exact⟨h1,H1.up cj,iR.trans (dW.up cj),.inl ⟨hE,w1.heap.size,rfl,bp w1 _,λhf=>by have:=(H1.lt hf).2;omega,iR.kept.size⟩⟩
 .have c1:((E:Int) !=0)=true:=by rw[bne_iff_ne];omega
  go_wp2_with fail;refine dm (v:= .tuple #[.pointer none,.int .i64 E]) (by simp[results,results150,go_sem]) rfl ?_;rw[ib.out];exact⟨h1,H1,iR,.inr ⟨hE,rfl⟩⟩
def Mh(d:aV)(nm:List UInt8)(sz dA:Nat)(l:List aC):Nat×aV×Nat×Nat:=
 if lh l≠0 then(lh l,d,sz,dA)
 else if (ia d nm (fh l)).2≠0 then((ia d nm (fh l)).2,(ia d nm (fh l)).1,sz,dA)
 else(0,(ia d nm (fh l)).1,sz+(fh l).length,dA+1)
def apQ(B gl:Nat)(h:cQ)(nm:List UInt8)(r:Nat×aV×Nat×Nat)(w:World)(e:Ending)(w':World):Prop:=
 ∃h',e= .returned (.int .i64 r.1)/\bD B h' r.2.1 w'/\mh gl h.g nm r.2.2.1 r.2.2.2 false w'/\lH gl h w h' w'/\h'.nb=h.nb/\h'.lb=h.lb
theorem abd{B gl:Nat}{h:cQ}{d:aV}{w:World}{nm:List UInt8}{sz dA:Nat}(H:bD B h d w)(L:mh gl h.g nm sz dA false w)(hf:¬aJ h gl)(hok:dx d)(cn:d.calls<=1000000000)(hs:nm.length<=9223372036854775807)(hsz:sz<=4611686018427387903)(hct:dA<=4611686018427387903)(A:Option Addr)(n c:Nat)(l:List aC)(hr:Rd w w.heap.size 5 A n (bl l))(hn:n<=9223372036854775807):
 Calls prog 195 #[.pointer (some ⟨gl,0,none⟩),.slice A n c] w (apQ B gl h nm (Mh d nm sz dA l) w):=by
 have hL:w.heap[gl]?=some (.cells #[.pointer (some ⟨h.g,0,none⟩),.string (tx nm),.int .i64 sz,.int .i64 dA,.bool false] 264 (0,0)):=L;have c4:=aoW hL 4;simp only[List.getElem?_toArray,List.getElem?_cons_zero,List.getElem?_cons_succ] at c4;have hps:Mh d nm sz dA l=if lh l≠0 then(lh l,d,sz,dA)
  else if (ia d nm (fh l)).2≠0 then((ia d nm (fh l)).2,(ia d nm (fh l)).1,sz,dA)
  else(0,(ia d nm (fh l)).1,sz+(fh l).length,dA+1):=rfl
 have EY:=aoU hps;clear hps;go_enter func195,ntmps195
 go_wp2_with fail;clear c4;refine(aaN A n c l w hr hn).mono ?_;rintro e w1⟨D,b9,bX,rfl,mz,hu1⟩;obtain⟨be,mg⟩:=bB (lh l)
 have H1:=H.up hu1;have Mi:=L.up hu1;have pF:gl<w.heap.size:=L.lt;have hdn:=mz.rd.gO;by_cases hb0:be=0
 .have EZ:lh l=0:=by rw[<- mg];exact hb0
  have hlen:=(aa7 EZ).2;have zg:=EY.out;rw[<- mg,if_neg (by omega)] at zg;rw[<- mg];have c1:((be:Int) !=0)=false:=by rw[bne_eq_false_iff_eq];omega
  have hca:=λ(W:World)(hW:aoV w1 W)=>V7 (H1.up hW) hok cn nm hs D b9 bX (fh l) (mz.rd.up hW) (by omega) (λ_ k hk abe=>by
   have h8:=(H.lt abe).2;have h9:=(oI mz hk).1;omega)
  obtain⟨d',E,hd⟩:∃a b,ia d nm (fh l)=(a,b):=⟨_,_,rfl⟩
  rw[hd] at hca zg
  (try dsimp only at hca zg)
  have Mj:=aoU hca;have Mk:=aoU zg;have E0:∀W,aoV w1 W->W.cell? ⟨gl,0,none⟩=some (.pointer (some ⟨h.g,0,none⟩))/\W.cell? ⟨gl,1,none⟩=some (.string (tx nm)):=λW hW=>(Mi.up hW).Mf
  have AL:=aoU hdn;have hdl:b9<=60012:=by omega
  generalize fh l=bb at *;clear hca zg EZ hb0 hd mg EY hr hlen hdn;go_upto_region 6 with fail
  go_region_held3 (λW=>W.cell? ⟨gl,0,none⟩=some (.pointer (some ⟨h.g,0,none⟩))/\W.cell? ⟨gl,1,none⟩=some (.string (tx nm))) (first|exact E0 _ (aoV.refl _)|exact E0 _ (aoV.refl _).drew|assumption|go_keep) (first
   |(go_at_call 185;with_reducible refine(Mj.out _ (aoV.refl _).drew).mono ?_;rintro e w3⟨h3,rfl,H3,ik,Xi⟩;have Ij:=aoU Xi;clear Xi;have wR:mh gl h.g nm sz dA false w3:=(Mi.up (aoV.refl _).drew).keeps ik.kept hf;have dQ:=wR.Mf))
  have nO:lH gl h w h3 w3:=(lH.up (hu1.trans (aoV.refl _).drew)).trans (lH.dk ik);clear E0 Mj ik H1 Mi H L hL mz hu1 dQ;by_cases hE:E=0
  .have c2:((E:Int) !=0)=false:=by rw[bne_eq_false_iff_eq];omega
   have Ml:w3.heap[gl]?=some (.cells #[.pointer (some ⟨h.g,0,none⟩),.string (tx nm),.int .i64 sz,.int .i64 dA,.bool false] 264 (0,0)):=wR;have k2:w3.cell? ⟨gl,2,none⟩=some (.int .i64 sz):=aoW Ml 2;have z2:=ay Ml 2;have hw:IntKind.i64.wrap ((sz:Int)+(b9:Int))=(sz:Int)+(b9:Int):=by rw[IntKind.wrap_i64];omega
   have il:=Mk.out;rw[if_neg (by omega)] at il;have fJ:=aoU il;clear il Mk hE;go_wp2_with fail;have bT:(sz:Int)+(b9:Int)=((sz+b9:Nat):Int):=by omega
   rw[bT];have E3:(w3.setCell ⟨gl,2,none⟩ (.int .i64 ((sz+b9:Nat):Int))).heap[gl]?=some (.cells #[.pointer (some ⟨h.g,0,none⟩),.string (tx nm),.int .i64 ((sz+b9:Nat):Int),.int .i64 dA,.bool false] 264 (0,0)):=bM w3 gl 2 _ _ _ Ml;have qp:V.af (λk=>k=gl) w3 (w3.setCell ⟨gl,2,none⟩ (.int .i64 ((sz+b9:Nat):Int))):=aoZ _ _ _ _ _ (V.af.refl _ _);clear k2 z2 hw bT Ml;generalize w3.setCell ⟨gl,2,none⟩ (.int .i64 ((sz+b9:Nat):Int))=w4 at *;have u9:¬aJ h3 gl:=nO.nf pF hf;have H4:=H3.kt qp (λk hk e=>u9 (e▸hk))
   refine(VR gl 3 (dA:Int) 1 w4 (aoW E3 3) (ay E3 3) (by omega)).mono ?_;rintro e ai⟨rfl,rfl⟩;have dt:(dA:Int)+1=((dA+1:Nat):Int):=by omega
   rw[dt];have L9:(w4.setCell ⟨gl,3,none⟩ (.int .i64 ((dA+1:Nat):Int))).heap[gl]?=some (.cells #[.pointer (some ⟨h.g,0,none⟩),.string (tx nm),.int .i64 ((sz+b9:Nat):Int),.int .i64 ((dA+1:Nat):Int),.bool false] 264 (0,0)):=bM w4 gl 3 _ _ _ E3;have vi:V.af (λk=>k=gl) w4 (w4.setCell ⟨gl,3,none⟩ (.int .i64 ((dA+1:Nat):Int))):=aoZ _ _ _ _ _ (V.af.refl _ _);have H5:=H4.kt vi (λk hk e=>u9 (e▸hk))
   have abf:lH gl h w h3 (w4.setCell ⟨gl,3,none⟩ (.int .i64 ((dA+1:Nat):Int))):=nO.trans ⟨rfl,af.weak (af.sO qp vi) (λk hk=> .inr hk),λk hk=> .inl hk⟩;generalize w4.setCell ⟨gl,3,none⟩ (.int .i64 ((dA+1:Nat):Int))=ai at *;clear dt qp vi H4 H3 E3;go_wp2_with fail;go_ret;rw[fJ.out];exact⟨h3,rfl,H5,by rw[<- AL.out];exact L9,abf,Ij.out⟩
  .have c2:((E:Int) !=0)=true:=by rw[bne_iff_ne];omega
   have il:=Mk.out;rw[if_pos hE] at il;have fJ:=aoU il;clear il Mk hE;go_wp2_with fail;go_ret;rw[fJ.out];exact⟨h3,rfl,H3,wR,nO,Ij.out⟩
 .have c1:((be:Int) !=0)=true:=by rw[bne_iff_ne];omega
  have zg:=EY.out;rw[<- mg,if_pos hb0] at zg;rw[<- mg];have fJ:=aoU zg;clear zg EY hb0 mg hL;go_wp2_with fail;go_ret;rw[fJ.out];exact⟨h,rfl,H1,Mi,lH.up hu1,rfl,rfl⟩
def jm:List UInt8:=lF 8 (cU 1)
def pQ(d:bA):aV:=fg d.am d.am.length d.mn d.mn.length jm d.cs
structure Sp where
 h:cQ
 gs:Nat
 aT:Nat
 gl:Nat
 dX:Nat
 dy:Nat
 bO:Nat
 cf:Nat
 S:Option Addr
 sc:Nat
 F:Option Addr
 fq:Nat
def Dh(p:Sp)(d:bA):Array Value:= #[.pointer (some ⟨p.h.g,0,none⟩),.pointer (some ⟨p.aT,0,none⟩),.pointer (some ⟨p.gl,0,none⟩),.pointer (some ⟨p.dX,0,none⟩),.slice none 0 0,.slice p.S d.bI.length p.sc,.int .i64 d.bI.length,.int .u32 0,.int .i32 0,.int .u32 0,.bool false]
def uv(p:Sp)(d:bA):Array Value:= #[.pointer (some ⟨p.h.g,0,none⟩),.string (tx cT),.int .i64 1,.slice p.F 0 p.fq,.int .u64 d.ao.aM,.int .u64 d.ao.ce,.int .u64 d.ao.a,.int .u64 d.ao.le,.int .i64 d.ne,.int .u32 0,.int .i32 0,.int .u32 0,.bool false]
structure qA(B dX dy bO cf:Nat)(w:World):Prop where
 q:w.heap[dX]?=some (.cells #[.pointer (some ⟨dy,0,none⟩),.int .u32 0,.int .i32 0,.int .u32 0,.bool false,.int .i64 0] 259 (0,0))
 l:w.heap[dy]?=some (.cells #[.pointer (some ⟨bO,0,none⟩),.int .i64 0] 319 (0,0))
 h:w.heap[bO]?=some (.cells #[.int .i64 0,.int .i64 0,.int .u64 0,.int .u64 0,.int .i64 0,.slice (some ⟨cf,0,none⟩) 6 6] 338 (0,0))
 n:w.heap[cf]?=some (.cells #[.pointer none,.pointer none,.pointer none,.pointer none,.pointer none,.pointer none] 335 (0,0))
 b:B<=dX/\B<=dy/\B<=bO/\B<=cf
structure eS(B:Nat)(p:Sp)(d:bA)(D:aV)(K:aD)(w:World):Prop where
 dk:bD B p.h D w
 st:w.heap[p.gs]?=some (.cells (Dh p d) 168 (0,0))
 mn:w.heap[p.aT]?=some (.cells (uv p d) 255 (0,0))
 am:mh p.gl p.h.g dK d.am.length d.nb false w
 ao:d.nb=0->qA B p.dX p.dy p.bO p.cf w
 im:jB K w 5 p.S d.bI.length (bl d.bI)
 bs:B<=p.gs/\B<=p.aT/\B<=p.gl
 cp:d.bI.length<=p.sc
abbrev vt(B:Nat)(p:Sp)(d:bA)(K:aD)(w:World):Prop:=eS B p d (pQ d) K w
def Di(p:Sp)(k:Nat):Prop:=k=p.dX\/k=p.dy\/k=p.bO\/k=p.cf
def ek(p:Sp)(d:bA)(k:Nat):Prop:=aJ p.h k\/k=p.gs\/k=p.aT\/k=p.gl\/(d.nb=0/\Di p k)
def o0(B:Nat)(p:Sp)(d:bA):fy:=λK X w=>vt B p d K w/\∀k,X k↔ek p d k
theorem bD.nf{B:Nat}{h:cQ}{d:aV}{w:World}(H:bD B h d w){k:Nat}{cs:Array Value}{t:TypeId}{z:Nat×Nat}(hb:w.heap[k]?=some (.cells cs t z))(h1:t≠91)(h2:t≠100)(h3:t≠103)(h4:t≠105)(h5:t≠5):¬aJ h k:=by
 have e:=ka hb;have no:∀t',kd w k=some (some t')->t=t':=λt' h'=>by rw[e] at h';injection h' with h';injection h'
 rintro (rfl|rfl|rfl|hk|hk|⟨f,hf,hk⟩);exact h1 (no _ (ka H.hd))
 .have:=As H.names;rw[e] at this;cases this
 .have:=As H.cw;rw[e] at this;cases this
 .exact h2 (no _ (jT H.files hk))
 .exact h4 (no _ (jT H.turns hk))
 .obtain⟨i,hi,rfl⟩:=List.getElem_of_mem hf;have hl:=H.ly;have hF:=H.each i h.aM[i] (d.files[i]'(by omega)) (dh hi) (dh (by omega));rcases hk with rfl|hk
  .exact h3 (no _ (ka hF.blk))
  .exact h5 (no _ (jT hF.own hk))
theorem qA.up{B dX dy bO cf:Nat}{w w':World}(h:qA B dX dy bO cf w)(hu:aoV w w'):qA B dX dy bO cf w':=⟨aH hu h.q,aH hu h.l,aH hu h.h,aH hu h.n,h.b⟩
theorem cL{w w':World}{X:Nat->Prop}{g:Nat}{o:Obj}(hK:V.af X w w')(h:w.heap[g]?=some o)(hx:¬X g):w'.heap[g]?=some o:=(hK.block _ (aB h) hx).trans h
theorem qA.keep{B dX dy bO cf:Nat}{w w':World}{X:Nat->Prop}(h:qA B dX dy bO cf w)(hK:V.af X w w')(hx:¬X dX/\¬X dy/\¬X bO/\¬X cf):qA B dX dy bO cf w':=
 ⟨cL hK h.q hx.1,cL hK h.l hx.2.1,cL hK h.h hx.2.2.1,cL hK h.n hx.2.2.2,h.b⟩
section
variable{B:Nat}{p:Sp}{d d':bA}{D D':aV}{K X Y:aD}{w w':World}
theorem eS.lt(H:eS B p d D K w){k:Nat}(hk:ek p d k):B<=k/\k<w.heap.size:=by
 have lt:∀ {g o},w.heap[g]?=some o->g<w.heap.size:=λh=>(aB h)
 rcases hk with hk|rfl|rfl|rfl|⟨h0,hk⟩
 .exact H.dk.lt hk
 .exact⟨H.bs.1,lt H.st⟩
 .exact⟨H.bs.2.1,lt H.mn⟩
 .exact⟨H.bs.2.2,H.am.lt⟩
 .have M:=H.ao h0;rcases hk with rfl|rfl|rfl|rfl
  .exact⟨M.b.1,lt M.q⟩
  .exact⟨M.b.2.1,lt M.l⟩
  .exact⟨M.b.2.2.1,lt M.h⟩
  .exact⟨M.b.2.2.2,lt M.n⟩
theorem eS.keep(H:eS B p d D K w)(hK:V.af Y w w')(hx:∀k,ek p d k->¬Y k)(hk:∀k,K k->¬Y k):eS B p d D K w' where
 dk:=H.dk.kt hK (λk h=>hx k (.inl h))
 st:=cL hK H.st (hx _ (.inr (.inl rfl)))
 mn:=cL hK H.mn (hx _ (.inr (.inr (.inl rfl))))
 am:=H.am.keeps hK (hx _ (.inr (.inr (.inr (.inl rfl)))))
 ao:=λh0=>(H.ao h0).keep hK ⟨hx _ (.inr (.inr (.inr (.inr ⟨h0,.inl rfl⟩)))),hx _ (.inr (.inr (.inr (.inr ⟨h0,.inr (.inl rfl)⟩)))),hx _ (.inr (.inr (.inr (.inr ⟨h0,.inr (.inr (.inl rfl))⟩)))),hx _ (.inr (.inr (.inr (.inr ⟨h0,.inr (.inr (.inr rfl))⟩))))⟩
 im:=H.im.keep hK hk
 bs:=H.bs
 cp:=H.cp
theorem eS.more{K':aD}(H:eS B p d D K w)(hk:∀k,K k->K' k):eS B p d D K' w:=⟨H.dk,H.st,H.mn,H.am,H.ao,H.im.more hk,H.bs,H.cp⟩
theorem eS.up(H:eS B p d D K w)(hA:∀k,K k->k<w.heap.size)(hu:aoV w w'):eS B p d D K w':=
 H.keep (Ye hu) (λk hk hn=>hn (H.lt hk).2) (λk hk hn=>hn (hA k hk))
theorem eS.nf(H:eS B p d D K w):¬aJ p.h p.gs/\¬aJ p.h p.aT/\¬aJ p.h p.gl:=
 ⟨H.dk.nf H.st (by decide) (by decide) (by decide) (by decide) (by decide),H.dk.nf H.mn (by decide) (by decide) (by decide) (by decide) (by decide),H.dk.nf H.am (by decide) (by decide) (by decide) (by decide) (by decide)⟩
theorem eS.ne(H:eS B p d D K w):p.gs≠p.aT/\p.gs≠p.gl/\p.aT≠p.gl:=by
 have am:w.heap[p.gl]?=some (.cells _ 264 (0,0)):=H.am;refine⟨λe=>?_,λe=>?_,λe=>?_⟩
 .have h:=H.st;rw[e] at h;exact absurd (cS h H.mn) (by decide)
 .have h:=H.st;rw[e] at h;exact absurd (cS h am) (by decide)
 .have h:=H.mn;rw[e] at h;exact absurd (cS h am) (by decide)
theorem eS.Fm(H:eS B p d D K w)(M:qA B p.dX p.dy p.bO p.cf w){k:Nat}(hk:Di p k):¬aJ p.h k/\k≠p.gs/\k≠p.aT/\k≠p.gl:=by
 have am:w.heap[p.gl]?=some (.cells _ 264 (0,0)):=H.am;rcases hk with rfl|rfl|rfl|rfl
 .refine⟨H.dk.nf M.q (by decide) (by decide) (by decide) (by decide) (by decide),λe=>?_,λe=>?_,λe=>?_⟩
  .have h:=M.q;rw[e] at h;exact absurd (cS h H.st) (by decide)
  .have h:=M.q;rw[e] at h;exact absurd (cS h H.mn) (by decide)
  .have h:=M.q;rw[e] at h;exact absurd (cS h am) (by decide)
 .refine⟨H.dk.nf M.l (by decide) (by decide) (by decide) (by decide) (by decide),λe=>?_,λe=>?_,λe=>?_⟩
  .have h:=M.l;rw[e] at h;exact absurd (cS h H.st) (by decide)
  .have h:=M.l;rw[e] at h;exact absurd (cS h H.mn) (by decide)
  .have h:=M.l;rw[e] at h;exact absurd (cS h am) (by decide)
 .refine⟨H.dk.nf M.h (by decide) (by decide) (by decide) (by decide) (by decide),λe=>?_,λe=>?_,λe=>?_⟩
  .have h:=M.h;rw[e] at h;exact absurd (cS h H.st) (by decide)
  .have h:=M.h;rw[e] at h;exact absurd (cS h H.mn) (by decide)
  .have h:=M.h;rw[e] at h;exact absurd (cS h am) (by decide)
 .refine⟨H.dk.nf M.n (by decide) (by decide) (by decide) (by decide) (by decide),λe=>?_,λe=>?_,λe=>?_⟩
  .have h:=M.n;rw[e] at h;exact absurd (cS h H.st) (by decide)
  .have h:=M.n;rw[e] at h;exact absurd (cS h H.mn) (by decide)
  .have h:=M.n;rw[e] at h;exact absurd (cS h am) (by decide)
theorem eS.ML(H:eS B p d D K w){h':cQ}(hK:∀k,ek p d k->¬K k)(T:lH p.gl p.h w h' w')(ab':bD B h' D' w')(L:mh p.gl h'.g dK d'.am.length d'.nb false w')(e1:d'.bI=d.bI)(e2:d'.ao=d.ao)(bG:d'.ne=d.ne)(bT:d'.nb=0->d.nb=0):
 eS B { p with h:=h' } d' D' K w':=by
 obtain⟨n1,n2,n3⟩:=H.nf;obtain⟨m1,m2,m3⟩:=H.ne;have hs:Dh { p with h:=h' } d'=Dh p d:=by unfold Dh;rw[e1,T.g]
 have hm:uv { p with h:=h' } d'=uv p d:=by unfold uv;rw[e2,bG,T.g]
 refine⟨ab',?_,?_,L,λh0=>?_,?_,H.bs,by rw[e1];exact H.cp⟩
 .rw[hs];exact cL T.kept H.st (λh=>h.elim n1 m2)
 .rw[hm];exact cL T.kept H.mn (λh=>h.elim n2 m3)
 .have q:∀k,Di p k->¬(aJ p.h k\/k=p.gl):=λk hk h=>h.elim (H.Fm (H.ao (bT h0)) hk).1 (H.Fm (H.ao (bT h0)) hk).2.2.2
  exact(H.ao (bT h0)).keep T.kept ⟨q _ (.inl rfl),q _ (.inr (.inl rfl)),q _ (.inr (.inr (.inl rfl))),q _ (.inr (.inr (.inr rfl)))⟩
 .rw[e1];exact H.im.keep T.kept (λk hk h=>h.elim (λh=>hK k (.inl h) hk) (λh=>hK k (.inr (.inr (.inr (.inl h)))) hk))
theorem eS.Db(H:eS B p d D K w){p':Sp}(hK:V.af Y w w')(hY:∀k,Y k->ek p d k)(hf:∀k,ek p' d' k->ek p d k\/w.heap.size<=k):aO K (ek p d) w K (ek p' d') w':=
 ⟨eQ hK hY,hf,λ_ h=>h,λ_ h=> .inl h⟩
theorem bH.Ys:bH B (o0 B p d) where
 keep:=λ⟨H,hX⟩ hK hn hk=>⟨H.keep hK (λk h=>hn k ((hX k).2 h)) hk,hX⟩
 more:=λ⟨H,hX⟩ hk=>⟨H.more hk,hX⟩
 lt:=λ⟨H,hX⟩ hk=>H.lt ((hX _).1 hk)
end
end
section
open Go.RowKit
theorem Dj(v:em):(nX v).length=6:=rfl
theorem zy(l:List em):(dO l).length=l.length*6:=Mc nX Dj l
theorem Rd.apT{w:World}{B n:Nat}{A:Option Addr}{l:List em}(h:Rd w B 6 A n (dO l)){k:Nat}(hk:k<n):
 ∃b o v,A=some ⟨b,o,none⟩/\b<B/\l[k]?=some v/\w.cell? ⟨b,o+k*6,none⟩=some (.int .i64 v.m.k)/\w.cell? ⟨b,o+k*6+1,none⟩=some (.int .i64 v.m.f)/\w.cell? ⟨b,o+k*6+2,none⟩=some (.int .i64 v.m.t)/\w.cell? ⟨b,o+k*6+3,none⟩=some (.int .u64 v.m.id)/\w.cell? ⟨b,o+k*6+4,none⟩=some (.int .u64 v.m.n)/\w.cell? ⟨b,o+k*6+5,none⟩=some (.slice v.A v.m.l.length v.c):=by
 have hl:=h.1;rw[zy] at hl;obtain⟨b,o,e,hb,hc⟩:=h.2 (by omega);have bS:k<l.length:=by omega
 have got:∀j u,j<6->(nX l[k])[j]?=some u->w.cell? ⟨b,o+k*6+j,none⟩=some u:=λj u hj hu=>by
  rw[Nat.add_assoc];exact hc _ _ ((Qq nX Dj l bS hj).trans hu)
 exact⟨b,o,l[k],e,hb,dh bS,got 0 _ (by omega) rfl,got 1 _ (by omega) rfl,got 2 _ (by omega) rfl,got 3 _ (by omega) rfl,got 4 _ (by omega) rfl,got 5 _ (by omega) rfl⟩
theorem apU{B g gc:Nat}{ms:List em}{K X:aD}{w:World}{cs:Array Value}(H:qz B g ms K X w)(hA:cy K X w)(hc:w.heap[gc]?=some (.cells cs 58 (0,0)))(kJ:cs[2]?=some (.pointer (some ⟨g,0,none⟩)))(Yt:¬X gc)(L:Option Addr)(n lc:Nat)(vs:List em)(hr:Rd w w.heap.size 6 L n (dO vs))(xb:∀k,bW L k->¬X k)(hvs:∀v∈vs,Rd w w.heap.size 5 v.A v.m.l.length (bl v.m.l)/\(∀k,bW v.A k->¬X k/\k<w.heap.size)/\gT v.m=true)(hlen:ms.length+n<300):
 Calls prog 49 #[.pointer (some ⟨gc,0,none⟩),.slice L n lc] w λe w'=>e= .returned (.tuple #[])/\∃K' X' us,us.map (·.m)=vs.map (·.m)/\qz B g (ms++us) K' X' w'/\aO K X w K' X' w'/\cy K' X' w':=by
 have hnl:n=vs.length:=by have:=hr.1;rw[zy] at this;omega
 have lz:=aoU hnl;have apG:=aoU hvs;have eJ:=aoU kJ;have dr:=aoU H;have hlt:∀k,X k->k<w.heap.size:=λk hk=>(bH.net.lt H hk).2
 have cn:=aB hc;clear hnl hvs kJ H;go_enter func49,ntmps49
 go_wp2_with fail;go_loopw[8] (λi wr=>∃(k:Nat)(K' X':aD)(us:List em),i= .int .i64 k/\k<=n/\us.map (·.m)=(vs.take k).map (·.m)/\qz B g (ms++us) K' X' wr/\aO K X w K' X' wr/\cy K' X' wr) (λi _=>n-(intOf i).toNat)
 case atStart=>exact⟨0,K,X,[],rfl,by omega,rfl,by rw[List.append_nil];exact dr.out,aO.refl K X w,hA⟩
 case round=>
  obtain⟨k,fO,aA,us,rfl,hk,pG,hN,hS,zz⟩:=hrel;by_cases iy:k<n
  .have bS:k<vs.length:=by have:=lz.out;omega
   have Fn:=hS.kept;obtain⟨b,o,v,rfl,hb,hv,q0,q1,cP,dQ,eX,fM⟩:=(hr.kt (aZ _) (λa ha=>xb a.block ⟨a,ha,rfl⟩) Fn).apT iy;have uw:v∈vs:=lW hv;obtain⟨Bg,si,Yu⟩:=apG.out v uw;have kx:=cL Fn hc Yt;have amM:=(aoW kx 2).trans eJ.out;have apH:∀kk,kk<w.heap.size->¬X kk->¬aA kk:=λkk h1 h2 h3=>(hS.aJ kk h3).elim h2 (λh=>by omega)
   have Ho:us.length=k:=by
    have:=congrArg List.length pG;rw[iZ,iZ,kT] at this;omega
   have jF:(us++[(⟨v.m,none,0⟩:em)]).map (·.m)=(vs.take (k+1)).map (·.m):=by
    have h9:vs[k]=v:=by rw[dh bS] at hv;injection hv
    rw[lU bS,kU,kU,pG,h9];rfl
   have Yv:∀R rc,(us++[(⟨v.m,R,rc⟩:em)]).map (·.m)=(vs.take (k+1)).map (·.m):=λR rc=>by rw[<- jF];simp
   have acd:∀kk,bW v.A kk->¬aA kk:=λkk hk=>apH _ (si kk hk).2 (si kk hk).1
   have ace:¬aA gc:=apH gc cn Yt;have hal:aoV wr (wr.alloc (.cells #[.int .i64 v.m.k,.int .i64 v.m.f,.int .i64 v.m.t,.int .u64 v.m.id,.int .u64 v.m.n,.slice v.A v.m.l.length v.c] 135)):=(aoV.refl wr).alloc _;have aL:=bp wr (.cells #[.int .i64 v.m.k,.int .i64 v.m.f,.int .i64 v.m.t,.int .u64 v.m.id,.int .u64 v.m.n,.slice v.A v.m.l.length v.c] 135);have acf:=(Bg.sW (aZ _) (λ_ a ha=>(si a.block ⟨a,ha,rfl⟩).1) Fn).up hal;have hNb:=bH.net.up hN zz hal;have Yw:=zz.up hal;have hcb:=aH hal kx;have acg:=hS.trans (aO.up (K:=fO) (X:=aA) hal)
   have MM:∀kk,aA kk->kk<wr.heap.size:=λkk hk=>(bH.net.lt hN hk).2
   have uh:(ms++us).length<300:=by rw[dG];omega
   have kW:=aoU Yv;have IT:=aoU Yu;have Ff:=aoU hNb;have my:=aoU uh;clear jF Yv Yu hNb uh pG Ho hv uw Bg si apH kx Fn bS hN hS zz;go_wp2_with fail;generalize wr.alloc (.cells #[.int .i64 v.m.k,.int .i64 v.m.f,.int .i64 v.m.t,.int .u64 v.m.id,.int .u64 v.m.n,.slice v.A v.m.l.length v.c] 135)=wb at *;have ach:¬aA wr.heap.size:=λh=>by have:=MM _ h;omega
   generalize wr.heap.size=br at *;have hcell:∀W,V.af aA wb W->W.cell? ⟨gc,2,none⟩=some (.pointer (some ⟨g,0,none⟩))/\W.cell? ⟨br,0,none⟩=some (.int .i64 v.m.k)/\W.cell? ⟨br,1,none⟩=some (.int .i64 v.m.f)/\W.cell? ⟨br,2,none⟩=some (.int .i64 v.m.t)/\W.cell? ⟨br,3,none⟩=some (.int .u64 v.m.id)/\W.cell? ⟨br,4,none⟩=some (.int .u64 v.m.n)/\W.cell? ⟨br,5,none⟩=some (.slice v.A v.m.l.length v.c):=λW hK=>by
    have e:=cL hK aL ach;exact⟨(aoW (cL hK hcb ace) 2).trans eJ.out,aoW e 0,aoW e 1,aoW e 2,aoW e 3,aoW e 4,aoW e 5⟩
   have cB:=aoU hcell;clear hcell;apply V.iE (λi vs' W=>V.af aA wb W/\(i=0->aoV wb W)/\(i=1->∃jY cD R rc,qz B g ((ms++us)++[⟨v.m,R,rc⟩]) jY cD W/\aO fO aA wb jY cD W/\cy jY cD W)) (by kernel_rfl) (by kernel_rfl) (λvs'=>⟨V.af.co (aoV.drew (aoV.refl wb)),λ_=>aoV.drew (aoV.refl wb),λe=>absurd e (by decide)⟩)
   .intro aF aoX;iterate 5 (apply V.az.ok;(· intro i vs' ai hS;obtain⟨c2,d0,d1,d2,d3,d4,d5⟩:=cB.out ai hS.1;clear hS;go_simp;(try with_reducible rfl));(· rfl);simp only[au,Nat.reduceAdd])
    apply V.az.call (.bool true);rfl
    .intro vs' ag hS cY ah;obtain⟨-,j2,-⟩:=hS;have j2:=j2 rfl;have Yx:=ab6 (bH.net.up Ff.out Yw j2) (Yw.up j2) my.out v (acf.up j2) acd IT.out;have vu:=aoU Yx;clear Yx;go_simp;refine vu.out.mono ?_;rintro e ai⟨rfl,jY,cD,R,rc,hn2,hs2,rS⟩;exact ah.out _ ⟨ci (V.af.co j2) hs2.kept,λe=>absurd e (by decide),λ_=>⟨jY,cD,R,rc,hn2,(aO.up j2).trans hs2,rS⟩⟩
    simp only[au,Nat.reduceAdd];apply V.az.fin;intro vs' ag hS;obtain⟨-,-,dL⟩:=hS;obtain⟨jY,cD,R,rc,hn2,hs2,rS⟩:=dL rfl;refine aoX.out _ _ ?_;clear aoX dL
    (try dsimp only)
    have IU:=aoU hn2;clear hn2;go_wp2_with fail;exact⟨⟨k+1,jY,cD,us++[⟨v.m,R,rc⟩],by go_num,by omega,kW.out R rc,by rw[<- jg];exact IU.out,acg.trans hs2,rS⟩,by simp[intOf];omega⟩
   .kernel_rfl
  .obtain rfl:k=n:=by omega
   have aS:us.map (·.m)=vs.map (·.m):=by rw[pG,lz.out,List.take_length]
   have ff:=aoU hN;clear pG hN;go_wp2_with fail;exact bodyPost_end (kV rfl _ _ _) rfl ⟨rfl,fO,aA,us,aS,ff.out,hS,zz⟩
theorem acy(g:Nat)(a:Value)(L:Option Addr)(n rc:Nat)(b c:Value)(w:World)(h:w.heap[g]?=some (.cells #[a,.slice L n rc,b,c] 86 (0,0))):
 Calls prog 74 #[.pointer (some ⟨g,0,none⟩),.int .i64 0] w λe w'=>e= .returned (.bool (decide (0<n)))/\w'=w:=by
 have c1:w.cell? ⟨g,1,none⟩=some (.slice L n rc):=aoW h 1;clear h;go_enter func74,ntmps74
 go_wp2_with fail;go_ret;exact⟨rfl,rfl⟩
theorem acz{B g:Nat}{ms:List em}{K X:aD}{w:World}(H:qz B g ms K X w):
 Calls prog 28 #[.pointer (some ⟨g,0,none⟩)] w λe w'=>e= .returned (.int .i64 ms.length)/\w'=w:=by
 obtain⟨L,rc,lost,sent,hb,-⟩:=H;have c1:w.cell? ⟨g,1,none⟩=some (.slice L ms.length rc):=aoW hb 1;generalize ms.length=n at *;go_enter func28,ntmps28
 go_wp2_with fail;go_ret;exact⟨rfl,rfl⟩
theorem acA{B:Nat}{K:aD}(w:World)(hB:B<=w.heap.size):
 Calls prog 15 #[.int .i64 300] w λe w'=>e= .returned (.pointer (some ⟨w.heap.size,0,none⟩))/\qz B w.heap.size [] K (λk=>k=w.heap.size) w'/\aoV w w':=by
 have cj:aoV w (w.alloc (.cells #[.int .i64 300,.slice none 0 0,.int .i64 0,.int .i64 0] 86)):=(aoV.refl w).alloc _;have aL:=bp w (.cells #[.int .i64 300,.slice none 0 0,.int .i64 0,.int .i64 0] 86);have m1:max (300:Int) 1=300:=by decide
 have m2:min (300:Int) 1000=300:=by decide
 go_enter func15,ntmps15
 go_wp2_with fail;go_ret;exact⟨rfl,⟨none,0,0,0,aL,hB,fC _ _ _ _,λk=>⟨λh=> .inl h,λh=>h.elim id (λ⟨a,ha,_⟩=>by cases ha)⟩,λv hv=>by cases hv⟩,cj⟩
theorem acB{B g:Nat}{v:em}{ms:List em}{K X:aD}{w:World}(H:qz B g (v::ms) K X w)(hA:cy K X w)(hn:ms.length<=1000):
 Calls prog 51 #[.pointer (some ⟨g,0,none⟩),.int .i64 0] w λe w'=>e= .returned (.tuple #[.agg #[.int .i64 v.m.k,.int .i64 v.m.f,.int .i64 v.m.t,.int .u64 v.m.id,.int .u64 v.m.n,.slice v.A v.m.l.length v.c],.bool true])/\qz B g ms K X w'/\aO K X w K X w'/\cy K X w':=by
 have yg:∀k,X k->k<w.heap.size:=λk hk=>(bH.net.lt H hk).2
 obtain⟨L,rc,lost,sent,hb,hB,hrow,hX,him⟩:=H;obtain⟨n,hnl⟩:=bB ((v::ms).length)
 rw[<- hnl] at hb hrow;have hnp:0<n:=by rw[hnl];simp
 have hnm:n-1=ms.length:=by rw[hnl];simp
 obtain⟨gl,rfl,amN,amO⟩:=El hrow hnp;have aQ:aoV w (w.alloc (.cells #[.int .i64 0,.int .i64 0,.int .i64 0,.int .u64 0,.int .u64 0,.slice none 0 0] 135)):=(aoV.refl w).alloc _;have aL:=bp w (.cells #[.int .i64 0,.int .i64 0,.int .i64 0,.int .u64 0,.int .u64 0,.slice none 0 0] 135);have Dc:w.heap.size<=w.heap.size:=aZ _;have IW:=λW (h:W.heap[g]?=_)=>acy g (.int .i64 300) (some ⟨gl,0,none⟩) n rc (.int .i64 lost) (.int .i64 sent) W h
 rw[decide_eq_true hnp] at IW;have YB:=aoU IW;have Fq:=λW (h:W.ownsRow B 135 6 (.slice (some ⟨gl,0,none⟩) n rc) n (dO (v::ms)))=>apZ gl n rc B (v::ms) 0 W h hnp
 simp only[Int.natCast_zero,Int.zero_add,List.eraseIdx_cons_zero] at Fq;have hxs:∀j,j<6->(dO (v::ms))[j]?=(nX v)[j]?:=λj hj=>by
  show(nX v++dO ms)[j]?=_;exact List.getElem?_append_left (by rw[aqh];exact hj)
 have hcell:∀(W:World),W.ownsRow B 135 6 (.slice (some ⟨gl,0,none⟩) n rc) n (dO (v::ms))->∀j u,j<6->(nX v)[j]?=some u->W.cell? ⟨gl,j,none⟩=some u:=λW h j u hj hu=>by
  obtain⟨b,o,e,-,hc⟩:=(Rd.own h).2 hnp;injection e with e;injection e with e1 e2;subst e1;subst e2;have h1:=hc j u ((hxs j hj).trans hu)
  rwa[dV] at h1
 have IX:=aoU Fq;have cB:=aoU hcell;have mY:=aoU hnm;clear IW Fq hcell hnm hnl hxs;obtain⟨⟨mk,mf,mt,mid,mn,l⟩,A,ac⟩:=v;dsimp only at IX cB|-;generalize kE:l.length=an at *;go_enter func51,ntmps51
 go_wp2_with fail;generalize w.alloc (.cells #[.int .i64 0,.int .i64 0,.int .i64 0,.int .u64 0,.int .u64 0,.slice none 0 0] 135)=wa at *;have hba:=aH aQ hb;have ow:=el hrow aQ;refine(YB.out wa hba).mono ?_;rintro e w1⟨rfl,rfl⟩;have c1:w1.cell? ⟨g,1,none⟩=some (.slice (some ⟨gl,0,none⟩) n rc):=aoW hba 1;have q0:=cB.out w1 ow 0 _ (by decide) rfl;have q1:=cB.out w1 ow 1 _ (by decide) rfl;have cP:=cB.out w1 ow 2 _ (by decide) rfl;have dQ:=cB.out w1 ow 3 _ (by decide) rfl;have eX:=cB.out w1 ow 4 _ (by decide) rfl;have fM:=cB.out w1 ow 5 _ (by decide) rfl
 rw[kE] at fM;have amP:(0:Int)<(n:Int):=by omega
 go_upto_region 4 with fail
 clear q0 q1 cP dQ eX fM c1;have aq:aoV w1 (w1.alloc (.cells #[.int .i64 mk,.int .i64 mf,.int .i64 mt,.int .u64 mid,.int .u64 mn,.slice A an ac] 135)):=(aoV.refl w1).alloc _;have hm2:=bp w1 (.cells #[.int .i64 mk,.int .i64 mf,.int .i64 mt,.int .u64 mid,.int .u64 mn,.slice A an ac] 135);have ao0:=aH aq hba;have il:=el ow aq;have hx2:=aH (aQ.trans aq) hb;have Q7:=aH aq aL;have hs1:=aQ.size;have hg1:w.heap.size<w1.heap.size:=aB aL;have Hu:=aB hb;have sm:=aQ.trans aq
 generalize w1.alloc (.cells #[.int .i64 mk,.int .i64 mf,.int .i64 mt,.int .u64 mid,.int .u64 mn,.slice A an ac] 135)=w2 at *;clear hx2 hba ow aL aQ aq;generalize w1.heap.size=g6 at *;generalize x7:w.heap.size=g4 at *;have c1:w2.cell? ⟨g,1,none⟩=some (.slice (some ⟨gl,0,none⟩) n rc):=aoW ao0 1;have nE:g≠gl:=λe=>by
  obtain⟨cs,z,h4⟩:=iL il ⟨_,rfl,rfl⟩;rw[<- e] at h4;exact absurd (cS ao0 h4) (by decide)
 go_wp2_with fail;refine(IX.out w2 il).mono ?_;rintro e w3⟨rfl,pE,ao8⟩;have mQ:=(ao8.block g (aB ao0) nE).trans ao0;have lB:=(ao8.block g6 (aB hm2) (by intro e;have e:g6=gl:=e;omega)).trans hm2;have Q8:=(ao8.block g4 (aB Q7) (by intro e;have e:g4=gl:=e;omega)).trans Q7;have c3:=aoW mQ 1;have f3:=ay mQ 1;have hb4:=bM w3 g 1 (.slice (some ⟨gl,0,none⟩) (n-1) rc) _ _ mQ
 have qp:V.af (λx=>x=g) w3 (w3.setCell ⟨g,1,none⟩ (.slice (some ⟨gl,0,none⟩) (n-1) rc)):=aoZ _ _ g 1 _ (V.af.refl _ _);go_upto_region 5 with fail
 generalize w3.setCell ⟨g,1,none⟩ (.slice (some ⟨gl,0,none⟩) (n-1) rc)=w4 at *;have va:=(qp.block g6 (aB lB) (by intro e;have e:g6=g:=e;omega)).trans lB;have acC:=(qp.block g4 (aB Q8) (by intro e;have e:g4=g:=e;omega)).trans Q8;have CW:=iC pE qp (λk hk e=>by
  have e:k=g:=e;obtain⟨a,ha,rfl⟩:=hk;injection ha with ha;subst ha;exact nE e.symm)
 have apm:w4.heap[g]?=some (.cells #[.int .i64 300,.slice (some ⟨gl,0,none⟩) (n-1) rc,.int .i64 lost,.int .i64 sent] 86 (0,0)):=hb4;have Fs:V.af X w w4:=ci (V.af.co sm) (ci (eQ ao8 (λk hk=>(hX k).2 (.inr ⟨_,rfl,hk.symm⟩))) (eQ qp (λk hk=>(hX k).2 (.inl hk))));clear hb4 mQ lB Q8 c3 f3 pE ao0 il hm2 Q7 c1 ao8 qp IX cB YB;obtain⟨d0,d1,d2,d3,d4,d5⟩:=iQ va;go_wp2_with (first
  |(
   with_reducible show wpList _ _ _ (⟨none,.store 135 _ _,_,_,_,none⟩::_) _ _
   go_loud (refine nW rfl 135 _ _ rfl (g:=g4) (cells:= #[.int .i64 mk,.int .i64 mf,.int .i64 mt,.int .u64 mid,.int .u64 mn,.slice A an ac]) (by kernel_rfl) (by kernel_rfl) acC Yh rfl (by simp[Value.oneCell']) ?_)
   intro dY hgd dF))
 obtain⟨e0,e1,e2,bG,bT,dt⟩:=iQ hgd;refine dm (v:= .tuple #[.agg #[.int .i64 mk,.int .i64 mf,.int .i64 mt,.int .u64 mid,.int .u64 mn,.slice A an ac],.bool true]) (by simp[results,results51,go_sem,e0,e1,e2,bG,bT,dt]) rfl ?_;have mC:∀k,X k->¬k=g4:=λk hk e=>by have:=yg k hk;omega
 have pP:V.af (λk=>k=g4) w4 dY:=dF;have Q9:V.af X w dY:=⟨pP.os.trans Fs.os,pP.tape.trans Fs.tape,pP.output.trans Fs.output,bQ Fs.size pP.size,λk hk hx=>(pP.block k (cg hk Fs.size) (by intro e;have e:k=g4:=e;omega)).trans (Fs.block k hk hx)⟩
 refine⟨rfl,⟨some ⟨gl,0,none⟩,rc,lost,sent,?_,hB,?_,hX,λv hv=>⟨(him v (kS _ hv)).1.keep Q9 (λk hk hx=>hA.ap k hx hk),(him v (kS _ hv)).2⟩⟩,⟨Q9,λk hk=> .inl hk,λ_ h=>h,λ_ h=> .inl h⟩,⟨hA.ap,λk hk=>by have:=hA.lt k hk;have:=Q9.size;omega⟩⟩
 .rw[<- mY.out];exact(pP.block g (aB apm) (by intro e;have e:g=g4:=e;omega)).trans apm
 .rw[<- mY.out];exact iC CW pP (λk hk e=>mC k ((hX k).2 (.inr hk)) e)
theorem YC(kind s t:Nat)(x:Int)(h:ya ⟨kind,s,t,x⟩=true)(w:World):
 Calls prog 21 #[.agg #[.int .i64 kind,.int .i64 s,.int .u64 t,.int .i64 x]] w λe w'=>e= .returned (.bool true)/\aoV w w':=by
 unfold ya at h;rw[lw] at h;dsimp only at h;obtain⟨h1,h2,h3⟩:=h;have cj:aoV w (w.alloc (.cells #[.int .i64 kind,.int .i64 s,.int .u64 t,.int .i64 x] 29)):=(aoV.refl w).alloc _;have y1:decide ((s:Int)<0)=false:=by rw[iO];omega
 have lZ:decide ((255:Int)<(s:Int))=false:=by rw[iO];omega
 have wT:decide ((1099511627776:Int)<(t:Int))=false:=by rw[iO];omega
 have oe:¬(s:Int)<0:=by omega
 rcases h3 with rfl|⟨rfl|rfl,rfl,rfl⟩
 .clear h1 h2;go_enter func21,ntmps21
  go_wp2_with fail;go_ret;exact⟨rfl,cj⟩
 .clear h1 h2;go_enter func21,ntmps21
  go_wp2_with fail;go_ret;exact⟨rfl,cj⟩
 .clear h1 h2;go_enter func21,ntmps21
  go_wp2_with fail;go_ret;exact⟨rfl,cj⟩
theorem acD(n at_ id:Nat)(h1:1<=n/\n<=7)(h2:at_<n)(h3:1<=id/\id<=1099511627776)(w:World):
 Calls prog 48 #[.int .i64 n,.int .i64 at_,.int .u64 id] w λe w'=>e= .returned (.bool true)/\w'=w:=by
 have y1:decide ((1:Int)<=(n:Int))=true:=by rw[lw];omega
 have lZ:decide ((n:Int)<=7)=true:=by rw[lw];omega
 have wT:decide ((0:Int)<=(at_:Int))=true:=by rw[lw];omega
 have oe:decide (at_<n)=true:=by rw[lw];omega
 have vk:decide ((1:Int)<=(id:Int))=true:=by rw[lw];omega
 have gE:decide ((id:Int)<=1099511627776)=true:=by rw[lw];omega
 have iS:decide (1<=n)=true:=by rw[lw];omega
 have z2:decide (n<=7)=true:=by rw[lw];omega
 have z5:decide (1<=id)=true:=by rw[lw];omega
 clear h1 h2 h3;go_enter func48,ntmps48
 go_wp2_with fail;go_ret;exact⟨rfl,rfl⟩
theorem acE(s t v x:Int)(w:World):
 Calls prog 73 #[.agg #[.int .i64 1,.int .i64 s,.int .u64 t,.int .i64 x],.int .u64 v] w λe w'=>e= .returned (.agg #[.int .i64 s,.int .i64 2,.int .u64 t,.int .u64 v,.int .i64 x])/\aoV w w':=by
 obtain⟨wa,cM⟩:=bB (w.alloc (.cells #[.int .i64 1,.int .i64 s,.int .u64 t,.int .i64 x] 29))
 have aQ:aoV w wa:=by rw[cM];exact(aoV.refl w).alloc _
 have h1:wa.heap[w.heap.size]?=some (.cells #[.int .i64 1,.int .i64 s,.int .u64 t,.int .i64 x] 29 (0,0)):=by rw[cM];exact bp w _
 have aX:aoV wa (wa.alloc (.cells #[.int .i64 0,.int .i64 0,.int .u64 0,.int .u64 0,.int .i64 0] 37)):=(aoV.refl wa).alloc _;have h2:=bp wa (.cells #[.int .i64 0,.int .i64 0,.int .u64 0,.int .u64 0,.int .i64 0] 37);have acF:=aH aX h1;have vr:wa.heap.size=w.heap.size+1:=by rw[cM];simp
 have jK:=aoU cM;have ye:=aoU vr;clear cM vr h1;go_enter func73,ntmps73
 go_upto_region 1 with fail
 rw[<- jK.out,<- ye.out];have hle:w.heap.size<=wa.heap.size:=aQ.size;have cj:=aQ.trans aX;clear jK ye aX;generalize wa.alloc (.cells #[.int .i64 0,.int .i64 0,.int .u64 0,.int .u64 0,.int .i64 0] 37)=wb at *;generalize wa.heap.size=g2 at *;obtain⟨q0,q1,cP,dQ⟩:=qb acF;go_wp2_with (first
  |(
   with_reducible show wpList _ _ _ (⟨none,.store 37 _ _,_,_,_,none⟩::_) _ _
   go_loud (refine IG rfl _ _ rfl (g:=g2) (z0:= .int .i64 s) (iS:= .int .i64 2) (z2:= .int .u64 t) (z3:= .int .u64 v) (z4:= .int .i64 x) (by kernel_rfl) (by kernel_rfl) h2 (by simp[Value.oneCell']) ?_)
   intro ai hgd dF;have nT:=gy.up cj dF hle;clear dF;obtain⟨e0,e1,e2,bG,bT⟩:=rK hgd;have f0:=ay hgd 0;have f1:=ay hgd 1;have f2:=ay hgd 2;have f3:=ay hgd 3;have f4:=ay hgd 4;simp only[List.getElem?_toArray,List.getElem?_cons_zero,List.getElem?_cons_succ] at e0 e1 e2 bG bT;clear hgd))
 refine dm (v:= .agg #[.int .i64 s,.int .i64 2,.int .u64 t,.int .u64 v,.int .i64 x]) (by simp[results,results73,go_sem,e0,e1,e2,bG,bT]) rfl ?_;exact⟨rfl,nT⟩
structure vw where
 ce:Nat
 l:List aC
 A:Option Addr
 c:Nat
def vx(v:vw):List Value:= [.int .u64 v.ce,.slice v.A v.l.length v.c]
def yi(l:List vw):List Value:=l.flatMap vx
def lk(ca:dT):Bool:=ca.fin.isSome
def ao4(ca:dT):rV:=ca.fin.getD abr
def Rh(b:Bool):Int:=if b=true then 1 else 0
def gI(ca:dT)(G:Option Addr)(gc:Nat)(A:Option Addr)(ac:Nat):Array Value:=
 #[.int .i64 ca.n,.int .i64 ca.at_,.int .u64 ca.id,.int .i64 ca.c.kind,.int .i64 ca.c.s,.int .u64 ca.c.t,.int .i64 ca.c.x,.int .u64 ca.v,
  .bool (ca.cnt.getD 0 false),.bool (ca.cnt.getD 1 false),.bool (ca.cnt.getD 2 false),.bool (ca.cnt.getD 3 false),.bool (ca.cnt.getD 4 false),.bool (ca.cnt.getD 5 false),.bool (ca.cnt.getD 6 false),
  .int .i64 ca.count,.slice G ca.cW.length gc,.int .i64 ca.ticks,.int .u32 (Rh (lk ca)),.int .i32 0,.int .u32 0,
  .int .u64 ((ao4 ca).id:Int),.int .i64 ((ao4 ca).c.kind:Int),.int .i64 ((ao4 ca).c.s:Int),.int .u64 ((ao4 ca).c.t:Int),.int .i64 (ao4 ca).c.x,.int .i64 ((ao4 ca).e:Int),.int .u64 ((ao4 ca).v:Int),.slice A (ao4 ca).l.length ac,.bool (lk ca)]
def gJ(B g:Nat)(ca:dT):fy:=λK X w=>∃(G:Option Addr)(gc:Nat)(A:Option Addr)(ac:Nat)(gs:List vw),w.heap[g]?=some (.cells (gI ca G gc A ac) 130 (0,0))/\B<=g/\w.ownsRow B 496 2 (.slice G ca.cW.length gc) ca.cW.length (yi gs)/\(∀k,X k↔(k=g\/bg G k))/\ca.cW=gs.map (λv=>(v.ce,v.l))/\(∀v∈gs,jB K w 5 v.A v.l.length (bl v.l))/\jB K w 5 A (ao4 ca).l.length (bl (ao4 ca).l)
theorem bH.call{B g:Nat}{ca:dT} :bH B (gJ B g ca) where
 keep:=λ{K X Y w w'} ⟨G,gc,A,ac,gs,h1,h2,h3,h4,h5,h6,h7⟩ hK hn hk=>⟨G,gc,A,ac,gs,(hK.block g (aB h1) (hn g ((h4 g).2 (.inl rfl)))).trans h1,h2,iC h3 hK (λk hk=>hn k ((h4 k).2 (.inr hk))),h4,h5,λv hv=>(h6 v hv).keep hK hk,h7.keep hK hk⟩
 more:=λ⟨G,gc,A,ac,gs,h1,h2,h3,h4,h5,h6,h7⟩ hK=>⟨G,gc,A,ac,gs,h1,h2,h3,h4,h5,λv hv=>(h6 v hv).more hK,h7.more hK⟩
 lt:=λ{K X w k} ⟨G,gc,A,ac,gs,h1,h2,h3,h4,h5,h6,h7⟩ hk=>by
  rcases (h4 k).1 hk with rfl|hk
  .exact⟨h2,(aB h1)⟩
  .obtain⟨a,rfl,rfl⟩:=hk;exact h3.lt a.block rfl
def Do(n at_ id:Nat)(c:ol)(v:Nat):dT:=⟨n,at_,id,c,v,List.replicate 7 false,0,[],0,none⟩
theorem YD(n at_ id:Nat)(kind s t:Nat)(x:Int)(v:Nat)(h1:1<=n/\n<=7)(h2:at_<n)(h3:1<=id/\id<=1099511627776)(h4:ya ⟨kind,s,t,x⟩=true)(h5:v<=281474976710656)(h6:v=0↔kind=3){B:Nat}{K:aD}(w:World)(hB:B<=w.heap.size):
 Calls prog 25 #[.int .i64 n,.int .i64 at_,.int .u64 id,.agg #[.int .i64 kind,.int .i64 s,.int .u64 t,.int .i64 x],.int .u64 v] w λe w'=>∃g,e= .returned (.tuple #[.pointer (some ⟨g,0,none⟩),.int .i64 0])/\gJ B g (Do n at_ id ⟨kind,s,t,x⟩ v) K (λk=>k=g) w'/\w.heap.size<=g/\aoV w w':=by
 have cj:aoV w (w.alloc (.cells #[.int .i64 kind,.int .i64 s,.int .u64 t,.int .i64 x] 29)):=(aoV.refl w).alloc _;have aL:=bp w (.cells #[.int .i64 kind,.int .i64 s,.int .u64 t,.int .i64 x] 29);have ff:=aoU (λW=>acD n at_ id h1 h2 h3 W);have cO:=aoU (λW=>YC kind s t x h4 W);have y1:decide ((281474976710656:Int)<(v:Int))=false:=by rw[iO];omega
 have lZ:((v:Int)==0)=((kind:Int)==3):=by
  rw[Bool.eq_iff_iff,beq_iff_eq,beq_iff_eq];omega
 clear h1 h2 h3 h4 h5 h6;go_enter func25,ntmps25
 go_wp2_with fail;generalize w.alloc (.cells #[.int .i64 kind,.int .i64 s,.int .u64 t,.int .i64 x] 29)=wa at *;refine(ff.out wa).mono ?_;rintro e w1⟨rfl,rfl⟩;obtain⟨q0,q1,cP,dQ⟩:=qb aL;go_wp2_with fail;refine(cO.out w1).mono ?_;rintro e w2⟨rfl,aq⟩;have ao0:=aH aq aL;clear q0 q1 cP dQ;obtain⟨q0,q1,cP,dQ⟩:=qb ao0;go_wp2_with fail
 refine dm (v:= .tuple #[.pointer (some ⟨w2.heap.size,0,none⟩),.int .i64 0]) (by simp[results,results25,go_sem]) rfl ?_;have hu:=cj.trans aq;refine⟨w2.heap.size,rfl,⟨none,0,none,0,[],bp w2 _,bQ hB hu.size,fC _ _ _ _,λk=>⟨λh=> .inl h,λh=>h.elim (λh=>h) (λ⟨a,ha,_⟩=>by cases ha)⟩,rfl,(λv hv=>by cases hv),jB.empty⟩,hu.size,hu.alloc _⟩
end
section
open Go.RowKit Go.Maps
structure dU where
 aE:Nat
 gn:Nat
 gk:Nat
 sp:Sp
 J:Option Addr
 fA:Nat
 du:List Nat
def mE(g:Nat):Value:= .iface 77 (.agg #[.pointer (some ⟨g,0,none⟩)])
def ox(q:dU):Array Value:= #[.pointer (some ⟨q.sp.h.g,0,none⟩),.pointer (some ⟨q.gn,0,none⟩),.pointer (some ⟨q.gk,0,none⟩),.slice q.J q.du.length q.fA]
def MO(q:dU):Array Value:= #[.pointer (some ⟨q.sp.h.g,0,none⟩),.pointer none,.pointer none,.slice none 0 0]
def zA(q:dU)(i aG:Nat)(d:bA):Array Value:= #[.int .i64 i,.pointer (some ⟨q.sp.gs,0,none⟩),.int .u64 d.now,.int .u64 aG]
def YE(B:Nat)(h:cQ)(D:aV):fy:=λ_ X w=>bD B h D w/\∀k,X k↔aJ h k
theorem bH.acG{B:Nat}{h:cQ}{D:aV} :bH B (YE B h D) where
 keep:=λ{K X Y w w'} ⟨H,hx⟩ hK hn _=>⟨H.kt hK (λk hk=>hn k ((hx k).2 hk)),hx⟩
 more:=λh _=>h
 lt:=λ{K X w k} ⟨H,hx⟩ hk=>H.lt ((hx k).1 hk)
def calls(B:Nat):List Nat->List dT->List fy
 |g::gs,c::cs=>gJ B g c::calls B gs cs
 |_,_=> []
theorem YF{B:Nat} :∀(gs:List Nat)(cs:List dT),∀P∈calls B gs cs,bH B P
 |g::gs,c::cs,P,h=>by
  rcases List.mem_cons.1 h with rfl|h
  .exact bH.call
  .exact YF gs cs P h
 | [],_,P,h=>by cases h
 |_::_,[],P,h=>by cases h
def ez(B i aG:Nat)(q:dU)(d:bA):List fy:=
 [nj B q.aE 66 (ox q),o0 B q.sp d,nj B q.gn 153 (zA q i aG d),kj B q.gk i d.bE.aR d.bE.ls,Row B 132 1 q.J q.du.length q.fA (q.du.map mE),bF (calls B q.du d.jobs)]
def Ri(B:Nat)(q:dU)(d:bA):List fy:= [nj B q.aE 66 (MO q),YE B q.sp.h (pQ d)]
theorem mo{B i aG:Nat}{q:dU}{d:bA} :∀P∈ez B i aG q d,bH B P:=by
 intro P h;simp only[ez,List.mem_cons,List.not_mem_nil,or_false] at h;rcases h with rfl|rfl|rfl|rfl|rfl|rfl
 .exact bH.blk
 .exact bH.Ys
 .exact bH.blk
 .exact bH.blk
 .exact bH.row
 .exact bH.sf (YF _ _)
theorem acH{B:Nat}{q:dU}{d:bA} :∀P∈Ri B q d,bH B P:=by
 intro P h;simp only[Ri,List.mem_cons,List.not_mem_nil,or_false] at h;rcases h with rfl|rfl
 .exact bH.blk
 .exact bH.acG
def lm(B i aG:Nat)(q:dU)(d:bA):fy:=if d.up=true then bF (ez B i aG q d) else bF (Ri B q d)
theorem bH.pl{B i aG:Nat}{q:dU}{d:bA} :bH B (lm B i aG q d):=by
 unfold lm;split;exact bH.sf mo;exact bH.sf acH
def mq(B aG:Nat):Nat->List dU->List bA->List fy
 |i,q::ja,d::ds=>lm B i aG q d::mq B aG (i+1) ja ds
 |_,_,_=> []
theorem Dp{B aG:Nat} :∀(i:Nat)(ja:List dU)(ds:List bA),∀P∈mq B aG i ja ds,bH B P
 |i,q::ja,d::ds,P,h=>by
  rcases List.mem_cons.1 h with rfl|h
  .exact bH.pl
  .exact Dp (i+1) ja ds P h
 |_,[],_,P,h=>by cases h
 |_,_::_,[],P,h=>by cases h
theorem IY{B aG:Nat} :∀(k i:Nat)(ja:List dU)(ds:List bA)(q:dU)(d:bA),ja[i]?=some q->ds[i]?=some d->(mq B aG k ja ds)[i]?=some (lm B (k+i) aG q d)
 |k,0,q::ja,d::ds,q',d',hq,hd=>by
  injection hq with hq;injection hd with hd;subst hq;subst hd;rfl
 |k,i+1,q::ja,d::ds,q',d',hq,hd=>by
  have:=IY (B:=B) (aG:=aG) (k+1) i ja ds q' d' hq hd;rw[show k+(i+1)=k+1+i by omega];exact this
theorem IZ{B aG:Nat} :∀(k i:Nat)(ja:List dU)(ds:List bA)(q:dU)(d:bA),(mq B aG k ja ds).set i (lm B (k+i) aG q d)=mq B aG k (ja.set i q) (ds.set i d)
 |k,0,q::ja,d::ds,q',d'=>by simp[mq]
 |k,i+1,q::ja,d::ds,q',d'=>by
  simp only[mq,List.set_cons_succ];rw[show k+(i+1)=k+1+i by omega,IZ (k+1) i ja ds q' d']
 |k,0,[],ds,q',d'=>by cases ds <;>simp[mq]
 |k,i+1,[],ds,q',d'=>by cases ds <;>simp[mq]
 |k,0,q::ja,[],q',d'=>by simp[mq]
 |k,i+1,q::ja,[],q',d'=>by simp[mq]
theorem Rj{B aG k:Nat}{q:dU}{ja:List dU}{d:bA}{ds:List bA} :mq B aG k (q::ja) (d::ds)=lm B k aG q d::mq B aG (k+1) ja ds:=rfl
theorem YG{B aG k:Nat} :mq B aG k [] []= []:=rfl
theorem YH{B aG:Nat}(q:dU)(d:bA):∀(ja:List dU)(ds:List bA)(k:Nat),ja.length=ds.length->mq B aG k (ja++[q]) (ds++[d])=mq B aG k ja ds++[lm B (k+ja.length) aG q d]
 | [],ds,k,h=>by
  have e:ds= []:=List.eq_nil_of_length_eq_zero h.symm;subst e;rw[gY,gY,Rj,YG,YG,gY,List.length_nil,Nat.add_zero]
 |q1::ja,ds,k,h=>by
  cases ds with
  |nil=>cases h
  |cons d1 ds=>
   rw[List.cons_append,List.cons_append,Rj,Rj,List.cons_append,YH q d ja ds (k+1) (Nat.succ.inj h),iu,Nat.add_assoc,Nat.add_comm 1]
structure jZ where
 a:rV
 A:Option Addr
 c:Nat
def apc(v:jZ):List Value:= [.int .u64 v.a.id,.int .i64 v.a.c.kind,.int .i64 v.a.c.s,.int .u64 v.a.c.t,.int .i64 v.a.c.x,.int .i64 v.a.e,.int .u64 v.a.v,.slice v.A v.a.l.length v.c]
def nY(l:List jZ):List Value:=l.flatMap apc
def Fu(B:Nat)(R:Option Addr)(rc:Nat)(l:List jZ):fy:=λK X w=>w.ownsRow B 32 8 (.slice R l.length rc) l.length (nY l)/\(∀k,X k↔bg R k)/\∀v∈l,jB K w 5 v.A v.a.l.length (bl v.a.l)
theorem bH.cZ{B:Nat}{R:Option Addr}{rc:Nat}{l:List jZ} :bH B (Fu B R rc l) where
 keep:=λ{K X Y w w'} ⟨h1,h2,h3⟩ hK hn hk=>⟨iC h1 hK (λk hk=>hn k ((h2 k).2 hk)),h2,λv hv=>(h3 v hv).keep hK hk⟩
 more:=λ⟨h1,h2,h3⟩ hK=>⟨h1,h2,λv hv=>(h3 v hv).more hK⟩
 lt:=λ{K X w k} ⟨h1,h2,h3⟩ hk=>by
  obtain⟨a,rfl,rfl⟩:=(h2 k).1 hk;exact h1.lt a.block rfl
structure dI where
 gc:Nat
 gt:Nat
 P:Option Addr
 pc:Nat
 aN:List dU
 ms:List em
 A:Option Addr
 ac:Nat
 ie:List jZ
 I:Option Addr
 zB:Nat
 nZ:List jZ
def jC(g:dI)(c:cr):Array Value:= #[.slice g.P g.aN.length g.pc,.int .u64 c.aG,.pointer (some ⟨g.gt,0,none⟩),.int .u64 c.ids,.slice g.A g.ie.length g.ac,.slice g.I g.nZ.length g.zB]
def pR(q:dU):Value:= .pointer (some ⟨q.aE,0,none⟩)
def apa(B:Nat)(g:dI)(c:cr):List fy:=
 [nj B g.gc 58 (jC g c),Row B 59 1 g.P g.aN.length g.pc (g.aN.map pR),qz B g.gt g.ms,Fu B g.A g.ac g.ie,Fu B g.I g.zB g.nZ,bF (mq B c.aG 0 g.aN c.aw)]
theorem qB{B:Nat}{g:dI}{c:cr} :∀P∈apa B g c,bH B P:=by
 intro P h;simp only[apa,List.mem_cons,List.not_mem_nil,or_false] at h;rcases h with rfl|rfl|rfl|rfl|rfl|rfl
 .exact bH.blk
 .exact bH.row
 .exact bH.net
 .exact bH.cZ
 .exact bH.cZ
 .exact bH.sf (Dp _ _ _)
structure acI(g:dI)(c:cr):Prop where
 net:g.ms.map (·.m)=c.net
 cZ:g.ie.map (·.a)=c.cZ
 jf:g.nZ.map (·.a)=c.jf
 aw:g.aN.length=c.aw.length
 jobs:∀(i:Nat)(q:dU)(d:bA),g.aN[i]?=some q->c.aw[i]?=some d->q.du.length=d.jobs.length
structure aU(B:Nat)(g:dI)(c:cr)(K X:aD)(w:World):Prop where
 ok:acI g c
 lay:bF (apa B g c) K X w
 jA:cy K X w
theorem YM(am:Int)(A:Option Addr)(ac aM ce a le:Nat)(w:World):
 Calls prog 157 #[.agg #[.int .i64 am,.slice A 0 ac,.int .u64 aM,.int .u64 ce,.int .u64 a,.int .u64 le]] w λe w'=>∃R rc,e= .returned (.agg #[.int .i64 am,.slice R 0 rc,.int .u64 aM,.int .u64 ce,.int .u64 a,.int .u64 le])/\aoV w w':=by
 obtain⟨wa,cM⟩:=bB (w.alloc (.cells #[.int .i64 am,.slice A 0 ac,.int .u64 aM,.int .u64 ce,.int .u64 a,.int .u64 le] 202))
 obtain⟨wb,cN⟩:=bB (wa.alloc (.cells #[.int .i64 0,.slice none 0 0,.int .u64 0,.int .u64 0,.int .u64 0,.int .u64 0] 202))
 have aQ:aoV w wa:=by rw[cM];exact(aoV.refl w).alloc _
 have aX:aoV wa wb:=by rw[cN];exact(aoV.refl wa).alloc _
 have h1:wb.heap[w.heap.size]?=some (.cells #[.int .i64 am,.slice A 0 ac,.int .u64 aM,.int .u64 ce,.int .u64 a,.int .u64 le] 202 (0,0)):=aH aX (by rw[cM];exact bp w _);have h2:wb.heap[wa.heap.size]?=some (.cells #[.int .i64 0,.slice none 0 0,.int .u64 0,.int .u64 0,.int .u64 0,.int .u64 0] 202 (0,0)):=by rw[cN];exact bp wa _
 have vr:wa.heap.size=w.heap.size+1:=by rw[cM];simp
 have wx:wb.heap.size=wa.heap.size+1:=by rw[cN];simp
 have jK:=aoU cM;have iD:=aoU cN;have ye:=aoU vr;have IH:=aoU wx;have kB:=aoW h1 1;have II:=aoU (aQ.trans aX);clear cM cN vr wx aQ aX;go_enter func157,ntmps157
 go_upto_region 1 with fail
 rw[<- jK.out,<- iD.out,<- ye.out];have hg1:w.heap.size<wa.heap.size:=by have:=ye.out;omega
 have nE:w.heap.size≠wa.heap.size:=by omega
 have Dc:w.heap.size<=w.heap.size:=aZ _;clear jK iD ye;generalize eH:w.heap.size=g1 at *;generalize wa.heap.size=g2 at *;have IJ:g1<wb.heap.size:=by have:=IH.out;omega
 have QU:g2<wb.heap.size:=by have:=IH.out;omega
 go_upto_region 2 with (
  at_builtin;refine iF _ Iu (fC _ wb.heap.size _ _) (Rd.empty (A:=A) (B:=wb.heap.size)) (by intro u hu;cases hu) (by omega) (by omega) (aZ _) rfl rfl rfl rfl ?_;intro v5 ai dN eh om;obtain⟨bZ,dC,rfl⟩:=eL dN
  have lN:ai.heap[g1]?=some (.cells #[.int .i64 am,.slice A 0 ac,.int .u64 aM,.int .u64 ce,.int .u64 a,.int .u64 le] 202 (0,0)):=(eh.block g1 IJ (λe=>by cases e)).trans h1;have tz:ai.heap[g2]?=some (.cells #[.int .i64 0,.slice none 0 0,.int .u64 0,.int .u64 0,.int .u64 0,.int .u64 0] 202 (0,0)):=(eh.block g2 QU (λe=>by cases e)).trans h2;have cI:aoV w ai:=II.out.grown eh (λg hg=>by cases hg);have dt:=aoW lN 1;have f5:=ay lN 1;have wZ:=bM ai g1 1 (.slice bZ 0 dC) _ _ lN
  have gU:V.af (λx=>x=g1) ai (ai.setCell ⟨g1,1,none⟩ (.slice bZ 0 dC)):=aoZ _ _ g1 1 _ (V.af.refl _ _);clear eh om)
 (try rw[dV])
 generalize ai.setCell ⟨g1,1,none⟩ (.slice bZ 0 dC)=cH at *;have Bb:cH.heap[g1]?=some (.cells #[.int .i64 am,.slice bZ 0 dC,.int .u64 aM,.int .u64 ce,.int .u64 a,.int .u64 le] 202 (0,0)):=wZ;have IK:=(gU.block g2 (aB tz) (λe=>nE e.symm)).trans tz;have eZ:aoV w cH:=gy.up cI gU (Nat.le_of_eq eH);clear wZ tz lN dN cI gU dt f5 kB h1 h2 II;obtain⟨d0,d1,d2,d3,d4,d5⟩:=iQ Bb;go_wp2_with (first
  |(
   with_reducible show wpList _ _ _ (⟨none,.store 202 _ _,_,_,_,none⟩::_) _ _
   go_loud (refine nW rfl 202 _ _ rfl (g:=g2) (cells:= #[.int .i64 am,.slice bZ 0 dC,.int .u64 aM,.int .u64 ce,.int .u64 a,.int .u64 le]) (by kernel_rfl) (by kernel_rfl) IK vy rfl (by simp[Value.oneCell']) ?_)
   intro dY hgd dF))
 have ao':=gy.up eZ dF (by omega);obtain⟨e0,e1,e2,bG,bT,dt⟩:=iQ hgd;refine dm (v:= .agg #[.int .i64 am,.slice bZ 0 dC,.int .u64 aM,.int .u64 ce,.int .u64 a,.int .u64 le]) (by simp[results,results157,go_sem,e0,e1,e2,bG,bT,dt]) rfl ?_;exact⟨bZ,dC,rfl,ao'⟩
theorem Rm{p:Sp}{d:bA}{w:World}(h:w.heap[p.aT]?=some (.cells (uv p d) 255 (0,0))):
 Calls prog 99 #[.pointer (some ⟨p.aT,0,none⟩)] w λe w'=>∃R rc,e= .returned (.agg #[.int .i64 1,.slice R 0 rc,.int .u64 d.ao.aM,.int .u64 d.ao.ce,.int .u64 d.ao.a,.int .u64 d.ao.le])/\aoV w w':=by
 have aQ:aoV w (w.alloc (.cells #[.int .i64 0,.slice none 0 0,.int .u64 0,.int .u64 0,.int .u64 0,.int .u64 0] 202)):=(aoV.refl w).alloc _;have aL:=bp w (.cells #[.int .i64 0,.slice none 0 0,.int .u64 0,.int .u64 0,.int .u64 0,.int .u64 0] 202);have hm:=aH aQ h;have c2:(w.alloc (.cells #[.int .i64 0,.slice none 0 0,.int .u64 0,.int .u64 0,.int .u64 0,.int .u64 0] 202)).cell? ⟨p.aT,2,none⟩=some (.int .i64 1):=aoW hm 2
 have c3:(w.alloc (.cells #[.int .i64 0,.slice none 0 0,.int .u64 0,.int .u64 0,.int .u64 0,.int .u64 0] 202)).cell? ⟨p.aT,3,none⟩=some (.slice p.F 0 p.fq):=aoW hm 3;have c4:(w.alloc (.cells #[.int .i64 0,.slice none 0 0,.int .u64 0,.int .u64 0,.int .u64 0,.int .u64 0] 202)).cell? ⟨p.aT,4,none⟩=some (.int .u64 d.ao.aM):=aoW hm 4;have c5:(w.alloc (.cells #[.int .i64 0,.slice none 0 0,.int .u64 0,.int .u64 0,.int .u64 0,.int .u64 0] 202)).cell? ⟨p.aT,5,none⟩=some (.int .u64 d.ao.ce):=aoW hm 5
 have gF:(w.alloc (.cells #[.int .i64 0,.slice none 0 0,.int .u64 0,.int .u64 0,.int .u64 0,.int .u64 0] 202)).cell? ⟨p.aT,6,none⟩=some (.int .u64 d.ao.a):=aoW hm 6;have pz:(w.alloc (.cells #[.int .i64 0,.slice none 0 0,.int .u64 0,.int .u64 0,.int .u64 0,.int .u64 0] 202)).cell? ⟨p.aT,7,none⟩=some (.int .u64 d.ao.le):=aoW hm 7;have cO:=aoU (YM 1 p.F p.fq d.ao.aM d.ao.ce d.ao.a d.ao.le (w.alloc (.cells #[.int .i64 0,.slice none 0 0,.int .u64 0,.int .u64 0,.int .u64 0,.int .u64 0] 202)));clear h hm;go_enter func99,ntmps99
 go_wp2_with fail;refine cO.out.mono ?_;rintro e w1⟨bZ,dC,rfl,hu1⟩;have fe:=aH hu1 aL;clear c2 c3 c4 c5 gF pz cO aL;generalize eH:w.heap.size=g2 at *;have eG:w.heap.size<=g2:=Nat.le_of_eq eH;clear eH;go_wp2_with (first
  |(
   with_reducible show wpList _ _ _ (⟨none,.store 202 _ _,_,_,_,none⟩::_) _ _
   go_loud (refine nW rfl 202 _ _ rfl (g:=g2) (cells:= #[.int .i64 1,.slice bZ 0 dC,.int .u64 d.ao.aM,.int .u64 d.ao.ce,.int .u64 d.ao.a,.int .u64 d.ao.le]) (by kernel_rfl) (by kernel_rfl) fe vy rfl (by simp[Value.oneCell']) ?_)
   intro dY hgd dF))
 have ao':=gy.up (aQ.trans hu1) dF eG;obtain⟨e0,e1,e2,bG,bT,dt⟩:=iQ hgd;refine dm (v:= .agg #[.int .i64 1,.slice bZ 0 dC,.int .u64 d.ao.aM,.int .u64 d.ao.ce,.int .u64 d.ao.a,.int .u64 d.ao.le]) (by simp[results,results99,go_sem,e0,e1,e2,bG,bT,dt]) rfl ?_;exact⟨bZ,dC,rfl,ao'⟩
theorem Fv{B:Nat}{p:Sp}{d:bA}{D:aV}{K:aD}{w:World}(H:eS B p d D K w)(hK:∀k,K k->k<w.heap.size):
 Calls prog 63 #[.pointer (some ⟨p.gs,0,none⟩)] w λe w'=>e= .returned (.agg #[.int .u64 d.ao.aM,.int .u64 d.ao.ce,.int .u64 d.ao.a,.int .u64 d.ao.le])/\aoV w w':=by
 have aQ:aoV w (w.alloc (.cells #[.int .u64 0,.int .u64 0,.int .u64 0,.int .u64 0] 97)):=(aoV.refl w).alloc _;have aL:=bp w (.cells #[.int .u64 0,.int .u64 0,.int .u64 0,.int .u64 0] 97);have Ha:=H.up hK aQ;have c1:(w.alloc (.cells #[.int .u64 0,.int .u64 0,.int .u64 0,.int .u64 0] 97)).cell? ⟨p.gs,1,none⟩=some (.pointer (some ⟨p.aT,0,none⟩)):=aoW Ha.st 1;have cO:=aoU (Rm Ha.mn);clear Ha H hK;go_enter func63,ntmps63
 go_wp2_with fail;refine cO.out.mono ?_;rintro e w1⟨bZ,dC,rfl,hu1⟩;have fe:=aH hu1 aL;have hu:=aQ.trans hu1;clear c1 cO aL;generalize eH:w.heap.size=g2 at *;have eG:w.heap.size<=g2:=Nat.le_of_eq eH;have hal:=(aoV.refl w1).alloc (.cells #[.int .i64 1,.slice bZ 0 dC,.int .u64 d.ao.aM,.int .u64 d.ao.ce,.int .u64 d.ao.a,.int .u64 d.ao.le] 202);have ao0:=aH hal fe;have sk:=bp w1 (.cells #[.int .i64 1,.slice bZ 0 dC,.int .u64 d.ao.aM,.int .u64 d.ao.ce,.int .u64 d.ao.a,.int .u64 d.ao.le] 202);obtain⟨-,-,d2,d3,d4⟩:=rK sk
 have d5:=aoW sk 5;have aq:=hu.trans hal;clear eH fe sk;go_wp2_with (first
  |(
   with_reducible show wpList _ _ _ (⟨none,.store 97 _ _,_,_,_,none⟩::_) _ _
   go_loud (refine nW rfl 97 _ _ rfl (g:=g2) (cells:= #[.int .u64 d.ao.aM,.int .u64 d.ao.ce,.int .u64 d.ao.a,.int .u64 d.ao.le]) (by kernel_rfl) (by kernel_rfl) ao0 (by kernel_rfl) rfl (by simp[Value.oneCell']) ?_)
   intro dY hgd dF))
 have ao':=gy.up aq dF eG;obtain⟨e0,e1,e2,bG⟩:=qb hgd;refine dm (v:= .agg #[.int .u64 d.ao.aM,.int .u64 d.ao.ce,.int .u64 d.ao.a,.int .u64 d.ao.le]) (by simp[results,results63,go_sem,e0,e1,e2,bG]) rfl ?_;exact⟨rfl,ao'⟩
def jM(a b:oZ):oZ:=⟨cK a.aM b.aM,cK a.ce b.ce,cK a.a b.a,cK a.le b.le⟩
def qC(m:oZ):Prop:=m.aM<=281474976710656/\m.ce<=281474976710656/\m.a<=281474976710656/\m.le<=281474976710656
theorem acM{a b:oZ}(ha:qC a)(hb:qC b):qC (jM a b):=by
 obtain⟨a1,a2,a3,a4⟩:=ha;obtain⟨b1,b2,b3,b4⟩:=hb;unfold jM cK qC;refine⟨?_,?_,?_,?_⟩ <;>dsimp only <;>split <;>assumption
theorem acN{m:oZ}(h:qC m):rx [] [] 0 m.aM m.ce m.a m.le=true:=by
 obtain⟨a1,a2,a3,a4⟩:=h;simp[rx,nR,a1,a2,a3,a4]
theorem acO{a b:oZ}(h:qC (jM a b)):tB 1 [] a.aM a.ce a.a a.le [] [] 0 b.aM b.ce b.a b.le=some (1,[],(jM a b).aM,(jM a b).ce,(jM a b).a,(jM a b).le):=by
 obtain⟨a1,a2,a3,a4⟩:=h;have hv:wU 1 [] (jM a b).aM (jM a b).ce (jM a b).a (jM a b).le=true:=by
  simp[wU,kh,nR,a1,a2,a3,a4,tA]
 unfold tB;show(if wU 1 [] (jM a b).aM (jM a b).ce (jM a b).a (jM a b).le=true then _ else _)=_;rw[if_pos hv];rfl
theorem acP{D D':aV}{s b:List UInt8}(h:ia D s b=(D',0)):b.length<=250000:=by
 have h2:(ia D s b).2=0:=by rw[h]
 unfold ia at h2;split at h2
 .rename_i hc;exact absurd h2 hc
 .split at h2
  .cases h2
  .split at h2
   .cases h2
   .rename_i hc;omega
def iV(r:Array Value)(o:Nat)(v0 v1 v2 v3 v4 v5:Value):Array Value:=(((((r.setIfInBounds o v0).setIfInBounds (o+1) v1).setIfInBounds (o+2) v2).setIfInBounds (o+3) v3).setIfInBounds (o+4) v4).setIfInBounds (o+5) v5
theorem acQ(w:World)(g o:Nat)(r:Array Value)(v0 v1 v2 v3 v4 v5:Value)(t:TypeId)(h:w.heap[g]?=some (.cells r t (0,0))):
 ((((((w.setCell ⟨g,o,none⟩ v0).setCell ⟨g,o+1,none⟩ v1).setCell ⟨g,o+2,none⟩ v2).setCell ⟨g,o+3,none⟩ v3).setCell ⟨g,o+4,none⟩ v4).setCell ⟨g,o+5,none⟩ v5).heap[g]?=some (.cells (iV r o v0 v1 v2 v3 v4 v5) t (0,0))/\
 V.af (λk=>k=g) w ((((((w.setCell ⟨g,o,none⟩ v0).setCell ⟨g,o+1,none⟩ v1).setCell ⟨g,o+2,none⟩ v2).setCell ⟨g,o+3,none⟩ v3).setCell ⟨g,o+4,none⟩ v4).setCell ⟨g,o+5,none⟩ v5):=by
 refine⟨?_,?_⟩
 .have h1:=bM _ g o v0 _ _ h;have h2:=bM _ g (o+1) v1 _ _ h1;have h3:=bM _ g (o+2) v2 _ _ h2;have h4:=bM _ g (o+3) v3 _ _ h3;have h5:=bM _ g (o+4) v4 _ _ h4;exact bM _ g (o+5) v5 _ _ h5
 .iterate 6 apply aoZ
  exact V.af.refl _ _
theorem acR(p:Sp)(d:bA)(h':cQ)(hg:h'.g=p.h.g)(R:Option Addr)(m:oZ)(mn:List UInt8):
 iV ((uv { p with h:=h' } d).setIfInBounds 8 (.int .i64 ((d.ne:Int)+1))) 2 (.int .i64 1) (.slice R 0 0) (.int .u64 m.aM) (.int .u64 m.ce) (.int .u64 m.a) (.int .u64 m.le)=
  uv { p with h:=h',F:=R,fq:=0 } { d with ao:=m,mn:=mn,ne:=d.ne+1 } :=by
 unfold uv iV;dsimp only;rw[hg,show((d.ne+1:Nat):Int)=(d.ne:Int)+1 from rfl];simp only[List.setIfInBounds_toArray,List.set_cons_zero,List.set_cons_succ]
theorem eS.acS{B:Nat}{p:Sp}{d:bA}{D:aV}{K:aD}{w w':World}(H:eS B p d D K w)(uz:¬K p.aT)(hK:V.af (λk=>k=p.aT) w w')(F:Option Addr)(fq:Nat)(m:oZ)(mn:List UInt8)(ne:Nat)(hb:w'.heap[p.aT]?=some (.cells (uv { p with F:=F,fq:=fq } { d with ao:=m,mn:=mn,ne:=ne }) 255 (0,0))):
 eS B { p with F:=F,fq:=fq } { d with ao:=m,mn:=mn,ne:=ne } D K w':=by
 obtain⟨n1,n2,n3⟩:=H.nf;obtain⟨m1,m2,m3⟩:=H.ne;refine⟨H.dk.kt hK (λk h e=>n2 (e▸h)),cL hK H.st m1,hb,H.am.keeps hK (λe=>m3 e.symm),λh0=>?_,H.im.keep hK (λk hk e=>uz (e▸hk)),H.bs,H.cp⟩;have q:∀k,Di p k->¬k=p.aT:=λk hk=>(H.Fm (H.ao h0) hk).2.2.1
 exact(H.ao h0).keep hK ⟨q _ (.inl rfl),q _ (.inr (.inl rfl)),q _ (.inr (.inr (.inl rfl))),q _ (.inr (.inr (.inr rfl)))⟩
theorem acT{B:Nat}{p:Sp}{d:bA}{D D' eN:aV}{K:aD}{w:World}(H:eS B p d D K w)(uz:∀k,ek p d k->¬K k)(ig:∀k,K k->k<w.heap.size)(m:oZ)(hm:qC m)(hme:qC d.ao)(hok:dx D)(cn:D.calls<=1000000000)(hD:ia D cT (kF m)=(D',0))(ry:ld D' cT=(eN,0))(gW:dx D')(vz:D'.calls<=1000000000)(hne:d.ne<=1000000):
 Calls prog 116 #[.pointer (some ⟨p.aT,0,none⟩),.agg #[.slice none 0 0,.slice none 0 0,.int .i64 0,.int .u64 m.aM,.int .u64 m.ce,.int .u64 m.a,.int .u64 m.le]] w λe w'=>e= .returned (.int .i64 0)/\∃h' F' nJ,eS B { p with h:=h',F:=F',fq:=nJ } { d with ao:=jM d.ao m,mn:=d.mn++kF m,ne:=d.ne+1 } eN K w'/\V.af (λk=>aJ p.h k\/k=p.aT) w w'/\(∀k,aJ h' k->aJ p.h k\/w.heap.size<=k)/\h'.g=p.h.g:=by
 obtain⟨wa,cM⟩:=bB (w.alloc (.cells #[.slice none 0 0,.slice none 0 0,.int .i64 0,.int .u64 m.aM,.int .u64 m.ce,.int .u64 m.a,.int .u64 m.le] 174))
 have aQ:aoV w wa:=by rw[cM];exact(aoV.refl w).alloc _
 have aL:wa.heap[w.heap.size]?=some (.cells #[.slice none 0 0,.slice none 0 0,.int .i64 0,.int .u64 m.aM,.int .u64 m.ce,.int .u64 m.a,.int .u64 m.le] 174 (0,0)):=by rw[cM];exact bp w _
 have Ha:=H.up ig aQ;have c12:wa.cell? ⟨p.aT,12,none⟩=some (.bool false):=aoW Ha.mn 12;rw[cM] at c12;obtain⟨d0,d1,d2,d3,d4,d5,d6⟩:=pw aL;rw[cM] at d0 d1 d2 d3 d4 d5 d6;have I7:=aoU (XS none 0 0 [] none 0 0 [] none 0 0 [] 0 m.aM m.ce m.a m.le wa Rd.empty (by omega) Rd.empty (by omega) Rd.empty (by omega));have jK:=aoU cM;have acU:=aoU (acN hm);clear cM;go_enter func116,ntmps116
 go_wp2_with fail;rw[<- jK.out];refine I7.out.mono ?_;rintro e w1 (⟨hno,-⟩|⟨-,P,oz,pc,rfl,yj,hu1⟩)
 .rw[acU.out] at hno;cases hno
 clear c12 d0 d1 d2 d3 d4 d5 d6 I7;go_wp2_with fail;have I8:=aQ.trans hu1;have H1:=H.up ig I8;obtain⟨x,hx⟩:∃x:oy,x=(1,[],(jM d.ao m).aM,(jM d.ao m).ce,(jM d.ao m).a,(jM d.ao m).le):=⟨_,rfl⟩
 have YN:x.2.1.length=0:=by rw[hx];rfl
 have hap:∀W,aoV w1 W->Calls prog 184 #[.agg #[.int .i64 1,.slice p.F 0 p.fq,.int .u64 d.ao.aM,.int .u64 d.ao.ce,.int .u64 d.ao.a,.int .u64 d.ao.le],.agg #[.slice none 0 0,.slice none 0 0,.int .i64 0,.int .u64 m.aM,.int .u64 m.ce,.int .u64 m.a,.int .u64 m.le]] W (XB (some x) W):=λW hW=>by
  have h:=XC 1 p.F 0 p.fq [] d.ao.aM d.ao.ce d.ao.a d.ao.le none 0 0 [] none 0 0 [] 0 m.aM m.ce m.a m.le W Rd.empty (by omega) Rd.empty (by omega) Rd.empty (by omega);rw[acO (acM hme hm),<- hx] at h;exact h
 have zw:=aH hu1 aL;have hS:∀W,aoV w1 W->aoV w1 W/\W.cell? ⟨p.aT,2,none⟩=some (.int .i64 1)/\W.cell? ⟨p.aT,3,none⟩=some (.slice p.F 0 p.fq)/\W.cell? ⟨p.aT,4,none⟩=some (.int .u64 d.ao.aM)/\W.cell? ⟨p.aT,5,none⟩=some (.int .u64 d.ao.ce)/\W.cell? ⟨p.aT,6,none⟩=some (.int .u64 d.ao.a)/\W.cell? ⟨p.aT,7,none⟩=some (.int .u64 d.ao.le)/\
  W.cell? ⟨w.heap.size,0,none⟩=some (.slice none 0 0)/\W.cell? ⟨w.heap.size,1,none⟩=some (.slice none 0 0)/\W.cell? ⟨w.heap.size,2,none⟩=some (.int .i64 0)/\W.cell? ⟨w.heap.size,3,none⟩=some (.int .u64 m.aM)/\W.cell? ⟨w.heap.size,4,none⟩=some (.int .u64 m.ce)/\W.cell? ⟨w.heap.size,5,none⟩=some (.int .u64 m.a)/\W.cell? ⟨w.heap.size,6,none⟩=some (.int .u64 m.le):=λW hW=>by
  have e1:=aH hW H1.mn;have e2:=aH hW zw;exact⟨hW,aoW e1 2,aoW e1 3,aoW e1 4,aoW e1 5,aoW e1 6,aoW e1 7,aoW e2 0,aoW e2 1,aoW e2 2,aoW e2 3,aoW e2 4,aoW e2 5,aoW e2 6⟩
 have ew:=aoU hx;have acV:=aoU YN;clear hx YN;apply V.fQ _ (by kernel_rfl) (by kernel_rfl) hS
 .intro aF aoX;iterate 5 (apply V.aj.ok;intros;go_simp;rfl;rfl;go_frame)
  apply V.aj.cG (GT x x.2.1.length w1.heap.size) (YK x x.2.1.length) [] []
  .exact λv W1 W2 h hs=>h.tW hs
  .rfl
  .intro vs w1 hK hS _ K ah;have Hf:=hK.size;go_simp;refine(hap _ hS.1).mono ?_;intro e w2 hp;obtain⟨R,rn,rfl,hrd,aq,hfr⟩:=hp;have jW:rn=x.2.1.length:=hrd.ly;subst jW;refine ah.out _ _ ⟨R,rfl,hrd,λa ha=>bQ Hf (hfr a ha).1⟩ (V.af.co aq) ?_;rintro g⟨o,s,he⟩;have hR:=Rl he;have YO:=hfr _ hR;exact⟨YO.2,.inl YO.1⟩
  simp only[au,Nat.reduceAdd];apply V.aj.wo (λvs W=>vs 6=vs 5) (λ_ _=>False) [] [] [5] (λvs vs' h=>by rw[h 6 (by simp),h 5 (by simp)];exact⟨rfl,rfl⟩)
  .exact λ_ _ _ h _=>h
  .rfl
  .intro vs w1 hK hS _ K ah;go_simp;refine ah.out _ _ ?_ (V.af.refl _ _) (λg hg=>hg.elim);rw[V.eV,V.jQ _ _ (by decide)]
  simp only[au,Nat.reduceAdd];apply V.aj.wo (λvs W=>∃R,vs 5=uy x R x.2.1.length/\vs 7=I6 x R x.2.1.length) (λ_ _=>False) [5,6] [] [5] (λvs vs' h=>by rw[h 7 (by simp),h 5 (by simp)];exact⟨rfl,rfl⟩)
  .exact λ_ _ _ h _=>h
  .rfl
  .intro vs w1 hK hS hf K ah;obtain⟨hg,hm,-⟩:=hf;obtain⟨R,hv,-⟩:=hg;have hm2:vs 6=uy x R x.2.1.length:=Eq.trans hm hv
   (try dsimp only at ah|-)
   rw[hm2] at ah|-;have cd:=aoU hv;clear hv hm hm2;unfold uy at ah|-;go_simp;exact ah.out _ _ ⟨R,by rw[V.jQ _ _ (by decide)];exact cd.out,by rw[V.eV]⟩ (V.af.refl _ _) (λg hg=>hg.elim)
  simp only[au,Nat.reduceAdd];apply V.aj.yO [5,6] (v:= .bool true)
  .intro vs w1 hS hf;obtain⟨hg,hm,-⟩:=hf;obtain⟨R,hv,-⟩:=hg;have hm2:vs 6=uy x R x.2.1.length:=Eq.trans hm hv
   (try dsimp only)
   rw[hm2];clear hv hm hm2;unfold uy;go_simp
  .rfl
  simp only[au,Nat.reduceAdd];apply V.aj.cG (λv W=>∃g,v= .pointer (some ⟨g,0,none⟩)/\W.heap[g]?=some (.cells #[.int .i64 0,.slice none 0 0,.int .u64 0,.int .u64 0,.int .u64 0,.int .u64 0] 202 (0,0))) V.ob [] []
  .rintro v W1 W2⟨g,rfl,hh⟩ hs;exact⟨g,rfl,(hs.block g (aB hh) (.inr rfl)).trans hh⟩
  .rfl
  .intro vs w1 hK hS _ K ah;go_simp;exact ah.out _ _ ⟨w1.heap.size,rfl,bp w1 _⟩ (V.af.co ((aoV.refl _).alloc _)) (by rintro g rfl;exact⟨by simp,.inl (aZ _)⟩)
  simp only[au,Nat.reduceAdd];apply V.aj.wo (λvs W=>∃R g,vs 5=uy x R x.2.1.length/\vs 9= .pointer (some ⟨g,0,none⟩)/\W.heap[g]?=some (.cells #[.int .i64 x.1,.slice R x.2.1.length x.2.1.length,.int .u64 x.2.2.1,.int .u64 x.2.2.2.1,.int .u64 x.2.2.2.2.1,.int .u64 x.2.2.2.2.2] 202 (0,0))) (λvs=>V.ob (vs 9)) [7,9] [9] [5,9] (λvs vs' h=>by rw[h 5 (by simp),h 9 (by simp)];exact⟨rfl,rfl⟩)
  .rintro vs W1 W2⟨R,g,h1,h2,hh⟩ hs;exact⟨R,g,h1,h2,(hs.block g (aB hh) (.inr (by rw[h2];rfl))).trans hh⟩
  .rfl
  .intro vs w1 hK hS hf K ah;obtain⟨h7,h9,-⟩:=hf;obtain⟨R,yk,hv7⟩:=h7;obtain⟨g,qw,hh⟩:=h9
   (try dsimp only at ah|-)
   rw[hv7,qw] at ah|-;have acW:=aoU yk;have Rn:=aoU qw;clear yk hv7 qw;have t0:=aoW hh 0;have jd:=ay hh 0;have t1:=aoW hh 1;have s1:=ay hh 1;have t2:=aoW hh 2;have s2:=ay hh 2;have t3:=aoW hh 3;have s3:=ay hh 3;have t4:=aoW hh 4;have dP:=ay hh 4;have t5:=aoW hh 5;have jy:=ay hh 5;have h6:=Mu w1 g _ _ _ _ _ _ (.int .i64 x.1) (.slice R x.2.1.length x.2.1.length) (.int .u64 x.2.2.1) (.int .u64 x.2.2.2.1) (.int .u64 x.2.2.2.2.1) (.int .u64 x.2.2.2.2.2) _ hh;unfold I6 at ah|-;go_simp
   refine ah.out undef _ ⟨R,g,by rw[V.jQ _ _ (by decide)];exact acW.out,by rw[V.jQ _ _ (by decide)];exact Rn.out,h6.1⟩ (af.weak h6.2 λy hy=>⟨9,fi.2 rfl,?_⟩) (λy hy=>⟨?_,.inr ⟨9,fi.2 rfl,?_⟩⟩)
   .show V.ob (vs 9) y;rw[Rn.out];exact hy.symm
   .have hy':V.ob (vs 9) y:=by simpa only[V.jQ _ _ (show 9≠10 by decide)] using hy
    rw[Rn.out] at hy';have acX:g=y:=hy';rw[<- acX];exact aB h6.1
   .have hy':V.ob (vs 9) y:=by simpa only[V.jQ _ _ (show 9≠10 by decide)] using hy
    exact hy'
  simp only[au,Nat.reduceAdd]
  (apply V.aj.ok;intros;go_simp;rfl;rfl;go_frame)
  apply V.aj.fin [5,6,7,10];intro vs dY hK hS hf;obtain⟨h5,h6,h7,h10,-⟩:=hf;refine aoX.out _ _ ?_;clear aoX;obtain⟨R,yk,acY,acZ⟩:=h5;obtain⟨Dr,yl,hv7⟩:=h7;obtain⟨I9,g8,rm,qw,YP⟩:=h10;have iq:vs 6=uy x R x.2.1.length:=Eq.trans h6 yk;have kg:R=Dr:=Rl (yk.symm.trans yl);have Bi:R=I9:=Rl (yk.symm.trans rm);subst kg;subst Bi
  (try dsimp only)
  rw[qw,hv7,iq,yk];have ao':=jR hK;have Bj:=I8.trans ao';have oA:=H.up ig Bj;have YQ:=el yj ao';have dJ:(kF m).length<=250000:=acP hD;have YR:∀k,bW P k->¬aJ p.h k:=λk hk gV=>by
   have h9:=(oI yj hk).1;have:=(H.lt (.inl gV)).2;have:=aQ.size;omega
  have mX:oz=(kF m).length:=by
   have:=(Rd.own yj).gO;exact this
  have YS:=aoU (λW (hW:aoV dY W)=>V8 (oA.dk.up hW) hok cn cT (by decide) P oz pc (kF m) ((Rd.own YQ).up hW) (by omega) YR);rw[acV.out] at YP|-;have Ro:=aoU YP;obtain⟨n1,n2,n3⟩:=oA.nf;have YT:¬aJ p.h p.aT:=n2;have hcell:∀W,V.af (aJ p.h) dY W->W.cell? ⟨p.aT,0,none⟩=some (.pointer (some ⟨p.h.g,0,none⟩))/\W.cell? ⟨p.aT,1,none⟩=some (.string (tx cT)):=λW fI=>by
   have e:=cL fI oA.mn YT;exact⟨aoW e 0,aoW e 1⟩
  have cB:=aoU hcell;have amQ:=aoU mX;clear hcell mX yk hv7 qw yl rm iq h6 hS hK hap zw dJ;unfold uy I6;go_wp2_with fail;apply V.iE (λi vs W=>V.af (aJ p.h) dY W/\(i=0->aoV dY W)/\(i=1->∃h',bD B h' D' W/\dW p.h dY h' W)) (by kernel_rfl) (by kernel_rfl) (λvs=>⟨V.af.co (aoV.drew (aoV.refl dY)),λ_=>aoV.drew (aoV.refl dY),λe=>absurd e (by decide)⟩)
  .intro aF aoX;iterate 9 (apply V.az.ok;(· intro i vs ai hS;obtain⟨d0,d1⟩:=cB.out ai hS.1;clear hS;go_simp;(try with_reducible rfl));(· rfl);simp only[au,Nat.reduceAdd])
   apply V.az.call (.int .i64 0);rfl
   .intro vs ag hS cY ah;obtain⟨j1,j2,-⟩:=hS;have bh:=aoU (YS.out ag (j2 rfl));rw[hD] at bh;have I':=aoU (j2 rfl);clear j2;go_simp;refine bh.out.mono ?_;rintro e ai⟨h',rfl,qD,Da⟩;exact ah.out _ ⟨ci j1 Da.kept,λe=>absurd e (by decide),λ_=>⟨h',qD,(dW.up I'.out).trans Da⟩⟩
   simp only[au,Nat.reduceAdd];iterate 1 (apply V.az.ok;(· intro i vs ai hS;clear hS;go_simp;(try with_reducible rfl));(· rfl);simp only[au,Nat.reduceAdd])
   apply V.az.fin;intro vs ag hS;obtain⟨-,-,dL⟩:=hS;obtain⟨h',LD,ym⟩:=dL rfl;have e9:=cL ym.kept oA.mn YT;have ac1:¬aJ p.h g8:=oA.dk.nf Ro.out (by decide) (by decide) (by decide) (by decide) (by decide);have MQ:=cL ym.kept Ro.out ac1;have amR:g8≠p.aT:=by
    intro e;rw[e] at MQ;exact absurd (cS MQ e9) (by decide)
   have Bk:=oA.ML uz (lH.dk ym) LD (by rw[ym.g];exact oA.am.keeps ym.kept oA.nf.2.2) rfl rfl rfl (λh=>h);have YU:ag.heap[p.aT]?=some (.cells (uv { p with h:=h' } d) 255 (0,0)):=Bk.mn;have eD:h'.g=p.h.g:=ym.g;have MR:=aoU eD;have YV:=aoU (ci (af.weak (V.af.co (X:=λ_=>False) Bj) (λ_ h=>h.elim)) ym.kept);have Rp:∀k,aJ h' k->aJ p.h k\/w.heap.size<=k:=λk hk=>(ym.aJ k hk).imp_right (λh=>bQ Bj.size h)
   have amS:=aoU ym;have ac2:=aoU Bk;have uV:ag.cell? ⟨p.aT,8,none⟩=some (.int .i64 d.ne):=aoW e9 8;have c2:ag.cell? ⟨p.aT,2,none⟩=some (.int .i64 1):=aoW e9 2;have c3:ag.cell? ⟨p.aT,3,none⟩=some (.slice p.F 0 p.fq):=aoW e9 3;have c4:ag.cell? ⟨p.aT,4,none⟩=some (.int .u64 d.ao.aM):=aoW e9 4;have c5:ag.cell? ⟨p.aT,5,none⟩=some (.int .u64 d.ao.ce):=aoW e9 5;have gF:ag.cell? ⟨p.aT,6,none⟩=some (.int .u64 d.ao.a):=aoW e9 6;have pz:ag.cell? ⟨p.aT,7,none⟩=some (.int .u64 d.ao.le):=aoW e9 7;have f8:=ay e9 8;have f2:=ay e9 2
   have f3:=ay e9 3;have f4:=ay e9 4;have f5:=ay e9 5;have f6:=ay e9 6;have f7:=ay e9 7;obtain⟨q0,q1,cP,dQ,eX,fM⟩:=iQ MQ;refine aoX.out _ _ ?_;clear aoX dL ym Bk eD Ro oA H1 Ha aL ao' Bj I8 aQ acZ acY yj YQ cB YS YR
   (try dsimp only)
   go_upto_region 14 with fail
   obtain⟨wx,hsk⟩:=acQ _ p.aT 2 _ (.int .i64 x.1) (.slice R 0 0) (.int .u64 x.2.2.1) (.int .u64 x.2.2.2.1) (.int .u64 x.2.2.2.2.1) (.int .u64 x.2.2.2.2.2) _ (bM ag p.aT 8 (.int .i64 ((d.ne:Int)+1)) _ _ YU);have MS:=ci (aoZ ag ag p.aT 8 (.int .i64 ((d.ne:Int)+1)) (V.af.refl _ _)) hsk;simp only[Nat.reduceAdd] at wx MS
   generalize ((((((ag.setCell ⟨p.aT,8,none⟩ (.int .i64 ((d.ne:Int)+1))).setCell ⟨p.aT,2,none⟩ (.int .i64 x.1)).setCell ⟨p.aT,3,none⟩ (.slice R 0 0)).setCell ⟨p.aT,4,none⟩ (.int .u64 x.2.2.1)).setCell ⟨p.aT,5,none⟩ (.int .u64 x.2.2.2.1)).setCell ⟨p.aT,6,none⟩ (.int .u64 x.2.2.2.2.1)).setCell ⟨p.aT,7,none⟩ (.int .u64 x.2.2.2.2.2)=je at *;clear hsk;have hx1:x.1=1:=by rw[ew.out]
   have hx2:x.2.2=((jM d.ao m).aM,(jM d.ao m).ce,(jM d.ao m).a,(jM d.ao m).le):=by rw[ew.out]
   have YW:je.heap[p.aT]?=some (.cells (uv { p with h:=h',F:=R,fq:=0 } { d with ao:=jM d.ao m,mn:=d.mn++kF m,ne:=d.ne+1 }) 255 (0,0)):=by
    rw[wx,hx2,hx1];exact congrArg (λz=>some (Obj.cells z 255 (0,0))) (acR p d h' MR.out R _ _)
   have Ds:=ac2.out.acS (λhk=>uz _ (.inr (.inr (.inl rfl))) hk) MS R 0 (jM d.ao m) (d.mn++kF m) (d.ne+1) YW;have YX:=aoU hx1;clear hx1 hx2 wx YW uV c2 c3 c4 c5 gF pz f8 f2 f3 f4 f5 f6 f7 q0 q1 cP dQ eX fM e9 YU MQ LD;have YY:=aoU MS;clear MS;have YZ:h'.g=p.h.g:=MR.out;obtain⟨tE,Fw⟩:∃tE:Sp,tE= { p with h:=h',F:=R,fq:=0 } :=⟨_,rfl⟩
   obtain⟨d4,ur⟩:∃d4:bA,d4= { d with ao:=jM d.ao m,mn:=d.mn++kF m,ne:=d.ne+1 } :=⟨_,rfl⟩
   have H4:eS B tE d4 D' K je:=by rw[Fw,ur];exact Ds
   have hq1:tE.aT=p.aT:=by rw[Fw]
   have eM:tE.h=h':=by rw[Fw]
   have Rq:∀k,ek tE d4 k->¬K k:=λk hk Rr=>by
    rw[Fw,ur] at hk;rcases hk with hk|hk
    .rcases Rp k hk with h|h
     .exact uz k (.inl h) Rr
     .exact absurd (ig k Rr) (by omega)
    .exact uz k (.inr hk) Rr
   have Rs:=aoU (λW (hW:aoV je W)=>PQ (H4.dk.up hW) gW vz cT (by decide));rw[eM] at Rs;have tF:¬aJ tE.h tE.aT:=H4.nf.2.1;rw[hq1,eM] at tF;have hcell:∀W,V.af (aJ h') je W->W.cell? ⟨p.aT,0,none⟩=some (.pointer (some ⟨p.h.g,0,none⟩))/\W.cell? ⟨p.aT,1,none⟩=some (.string (tx cT)):=λW fI=>by
    have e:=cL fI Ds.mn tF;rw[<- YZ];exact⟨aoW e 0,aoW e 1⟩
   have cB:=aoU hcell;have MT:=aoU Fw;have Fx:=aoU ur;have Ja:=aoU eM;clear hcell Fw ur hq1 eM YZ Ds tF;apply V.iE (λi vs W=>V.af (aJ h') je W/\(i=0->aoV je W)/\(i=1->∃h5,bD B h5 eN W/\dW h' je h5 W)) (by kernel_rfl) (by kernel_rfl) (λvs=>⟨V.af.co (aoV.drew (aoV.refl je)),λ_=>aoV.drew (aoV.refl je),λe=>absurd e (by decide)⟩)
   .intro aF aoX;iterate 8 (apply V.az.ok;(· intro i vs ai hS;obtain⟨d0,d1⟩:=cB.out ai hS.1;clear hS;go_simp;(try with_reducible rfl));(· rfl);simp only[au,Nat.reduceAdd])
    apply V.az.call (.int .i64 0);rfl
    .intro vs fE hS cY ah;obtain⟨j1,j2,-⟩:=hS;have bh:=aoU (Rs.out fE (j2 rfl));rw[ry,MR.out] at bh;have I':=aoU (j2 rfl);clear j2;go_simp;refine bh.out.mono ?_;rintro e ai⟨h5,rfl,qD,Da⟩;exact ah.out _ ⟨ci j1 Da.kept,λe=>absurd e (by decide),λ_=>⟨h5,qD,(dW.up I'.out).trans Da⟩⟩
    simp only[au,Nat.reduceAdd];iterate 1 (apply V.az.ok;(· intro i vs ai hS;clear hS;go_simp;(try with_reducible rfl));(· rfl);simp only[au,Nat.reduceAdd])
    apply V.az.fin;intro vs fE hS;obtain⟨-,-,dL⟩:=hS;obtain⟨h5,Y6,xd⟩:=dL rfl;have MU:dW tE.h je h5 fE:=by rw[Ja.out];exact xd
    have Fy:=H4.ML Rq (lH.dk MU) Y6 (by rw[MU.g];exact H4.am.keeps MU.kept H4.nf.2.2) rfl rfl rfl (λh=>h);have ac3:=aoU Fy;have fk:=aoU xd;refine aoX.out _ _ ?_;clear aoX dL Fy MU H4 Y6 cB Rs xd
    (try dsimp only)
    go_wp2_with fail;go_ret;have hsz:w.heap.size<=je.heap.size:=bQ YV.out.size YY.out.size;have xd:=fk.out;refine⟨rfl,h5,R,0,?_,?_,?_,xd.g.trans MR.out⟩
    .have h:=ac3.out;rw[MT.out,Fx.out] at h;exact h
    .have k1:V.af (λk=>aJ p.h k\/k=p.aT) w je:=ci (eQ YV.out (λ_ h=> .inl h)) (eQ YY.out (λ_ h=> .inr h));refine⟨xd.kept.os.trans k1.os,xd.kept.tape.trans k1.tape,xd.kept.output.trans k1.output,bQ k1.size xd.kept.size,λk hk hx=>?_⟩;refine(xd.kept.block k (cg hk k1.size) (λhf=>?_)).trans (k1.block k hk hx);rcases Rp k hf with h|h
     .exact hx (.inl h)
     .omega
    .intro k hk;rcases xd.aJ k hk with h|h
     .exact Rp k h
     .exact .inr (by omega)
   .kernel_rfl
  .kernel_rfl
 .kernel_rfl
end
section
open Go.RowKit
end
section
open Go.RowKit Go.Maps
theorem rp.take{w:World}{rs:List lG}(h:rp w rs)(k:Nat):rp w (rs.take k):=λr hr=>h r (List.mem_of_mem_take hr)
theorem rp.append{w:World}{rs ss:List lG}(h:rp w rs)(k:rp w ss):rp w (rs++ss):=λr hr=>(List.mem_append.1 hr).elim (h r) (k r)
theorem RA(g o:Nat)(x y:Int)(w:World)(hc:w.cell? ⟨g,o,none⟩=some (.int .i64 x))(hz:w.frozen? ⟨g,o,none⟩=false):
 Calls prog 159 #[.pointer (some ⟨g,o,none⟩),.int .i64 y] w λe w'=>e= .returned (.tuple #[])/\w'=w.setCell ⟨g,o,none⟩ (.int .i64 y):=by
 have hst:=run_call_store (P:=prog) func227 (by kernel_rfl) (by kernel_rfl) (by kernel_rfl) (by kernel_rfl) (k:= .i64) (y:=y) hc hz;go_enter func159,ntmps159
 go_wp2_with fail;exact bodyPost_end (kV rfl _ _ _) rfl ⟨rfl,rfl⟩
def adK(B gl:Nat)(h:cQ)(d:aV)(nm:List UInt8)(sz dA:Nat)(w:World)(e:Ending)(w':World):Prop:=
 ∃h',e= .returned (.int .i64 ((ld d nm).2:Int))/\bD B h' (ld d nm).1 w'/\mh gl h.g nm sz dA false w'/\lH gl h w h' w'
theorem ZC{B gl:Nat}{h:cQ}{d:aV}{w:World}{nm:List UInt8}{sz dA:Nat}(H:bD B h d w)(L:mh gl h.g nm sz dA false w)(hf:¬aJ h gl)(hok:dx d)(cn:d.calls<=1000000000)(hs:nm.length<=9223372036854775807):
 Calls prog 151 #[.pointer (some ⟨gl,0,none⟩)] w (adK B gl h d nm sz dA w):=by
 have hL:w.heap[gl]?=some (.cells #[.pointer (some ⟨h.g,0,none⟩),.string (tx nm),.int .i64 sz,.int .i64 dA,.bool false] 264 (0,0)):=L;have c4:=aoW hL 4;simp only[List.getElem?_toArray,List.getElem?_cons_zero,List.getElem?_cons_succ] at c4;have hca:=λ(W:World)(hW:aoV w W)=>PQ (H.up hW) hok cn nm hs
 have Mj:=aoU hca;have E0:=λ(W:World)(hW:aoV w W)=>(L.up hW).Mf
 clear hca;go_enter func151,ntmps151
 go_upto_region 3 with fail
 clear c4 hL;go_region_held3 (λW=>W.cell? ⟨gl,0,none⟩=some (.pointer (some ⟨h.g,0,none⟩))/\W.cell? ⟨gl,1,none⟩=some (.string (tx nm))) (first|exact E0 _ (aoV.refl _)|exact E0 _ (aoV.refl _).drew|assumption|go_keep) (first
  |(go_at_call 186;with_reducible refine(Mj.out _ (aoV.refl _).drew).mono ?_;rintro e w3⟨h3,rfl,H3,ik⟩;have wR:mh gl h.g nm sz dA false w3:=(L.up (aoV.refl _).drew).keeps ik.kept hf;have dQ:=wR.Mf))
 go_wp2_with fail;go_ret;exact⟨h3,rfl,H3,wR,(lH.up (aoV.refl _).drew).trans (lH.dk ik)⟩
theorem Rg{B:Nat}{h:cQ}{d da db bX:aV}{w:World}(H:bD B h d w)(hok:dx d)(cn:d.calls<=1000000)(hnf:d.files.length<1000000)(hnt:d.turns.length<1000000)(s:List UInt8)(hs:s.length<=1000)(R:Option Addr)(n c:Nat)(bs:List UInt8)(hr:Rd w w.heap.size 1 R n (cu bs))(hn:n<=1000000)(hR:∀k,bW R k->¬aJ h k/\k<w.heap.size)(h1:mZ d s=(da,0))(h2:ia da s bs=(db,0))(h3:ld db s=(bX,0))(hca:da.calls<=1000000)(hcb:db.calls<=1000000):
 Calls prog 243 #[.pointer (some ⟨h.g,0,none⟩),.string (tx s),.slice R n c] w λe w'=>e= .returned (.int .i64 0)/\∃h',bD B h' bX w'/\dW h w h' w':=by
 have RP:dx da:=by have:=LC hok s hnf hnt;rw[h1] at this;exact this
 have Up:dx db:=by have:=PO RP s bs;rw[h2] at this;exact this
 have bh:=aoU (V3 H hok (by omega) hnf hnt s (by omega));rw[h1] at bh;have iw:=aoU (λ(h':cQ)(W:World)(Ha:bD B h' da W)(hr':Rd W W.heap.size 1 R n (cu bs))(aem:∀k,bW R k->¬aJ h' k)=>V8 Ha RP (by omega) s (by omega) R n c bs hr' (by omega) aem);rw[h2] at iw;have dg:=aoU (λ(h':cQ)(W:World)(Ha:bD B h' db W)=>PQ Ha Up (by omega) s (by omega));rw[h3] at dg;have fJ:=aoU hr;have ff:=aoU hR;clear H hok cn hnf hnt hs hr hn hR h1 h2 h3 hca hcb RP Up;go_enter func243,ntmps243
 go_wp2_with fail;refine bh.out.mono ?_;rintro e w1⟨ha,rfl,H1,sx⟩;have kz:Rd w1 w1.heap.size 1 R n (cu bs):=fJ.out.sW (aZ _) (λ_ a ha hx=>(ff.out a.block ⟨a,ha,rfl⟩).1 hx) sx.kept;have fj:∀k,bW R k->¬aJ ha k:=λk hk hf=>(sx.aJ k hf).elim (ff.out k hk).1 (λh9=>by have:=(ff.out k hk).2;omega)
 have hg1:ha.g=h.g:=sx.g;have Dw:=aoU (iw.out ha w1 H1 kz fj);rw[hg1] at Dw;have RQ:=aoU sx;clear kz fj H1 sx hg1 bh iw;go_wp2_with fail;refine Dw.out.mono ?_;rintro e w2⟨hb,rfl,H2,eC⟩;have ex:hb.g=h.g:=eC.g.trans RQ.out.g;have vD:=aoU (dg.out hb w2 H2);rw[ex] at vD;have w9:=aoU (RQ.out.trans eC);clear H2 eC ex Dw dg RQ;go_wp2_with fail;refine vD.out.mono ?_;rintro e w3⟨hc,rfl,H3,nO⟩;have aen:=aoU (w9.out.trans nO);have pD:=aoU H3;clear H3 nO vD w9;go_wp2_with fail;go_ret;exact⟨rfl,hc,pD.out,aen.out⟩
end
section
open Go.RowKit
theorem afK(w:World):Calls prog 156 #[] w λe w'=>∃dy bO cf,e= .returned (.pointer (some ⟨dy,0,none⟩))/\w'.heap[dy]?=some (.cells #[.pointer (some ⟨bO,0,none⟩),.int .i64 0] 319 (0,0))/\
 w'.heap[bO]?=some (.cells #[.int .i64 0,.int .i64 0,.int .u64 0,.int .u64 0,.int .i64 0,.slice (some ⟨cf,0,none⟩) 6 6] 338 (0,0))/\w'.heap[cf]?=some (.cells #[.pointer none,.pointer none,.pointer none,.pointer none,.pointer none,.pointer none] 335 (0,0))/\w.heap.size<=dy/\w.heap.size<=bO/\w.heap.size<=cf/\aoV w w':=by
 have fk:=aoU (s4 (.int .i64 0) (.int .i64 0) (.int .u64 0) (.int .u64 0) (.int .i64 0) 6 (by omega) w (by simp[Value.oneCell']));go_enter func156,ntmps156
 go_wp2_with fail;refine fk.out.mono ?_;rintro e w1⟨g,gn,rfl,h1,h2,h3,h4,hu⟩;have hal:=(aoV.refl w1).alloc (.cells #[.pointer (some ⟨g,0,none⟩),.int .i64 0] 319);have hnew:=bp w1 (.cells #[.pointer (some ⟨g,0,none⟩),.int .i64 0] 319);have mJ:=aoU hnew;clear hnew;go_wp2_with fail;go_ret;exact⟨w1.heap.size,g,gn,rfl,mJ.out,aH hal h1,aH hal h2,hu.size,h3,h4,hu.trans hal⟩
theorem q3{B:Nat}(w:World)(hB:B<=w.heap.size):Calls prog 98 #[] w λe w'=>∃dX dy bO cf,e= .returned (.pointer (some ⟨dX,0,none⟩))/\qA B dX dy bO cf w'/\w.heap.size<=dX/\w.heap.size<=dy/\w.heap.size<=bO/\w.heap.size<=cf/\aoV w w':=by
 have fk:=aoU (afK w);go_enter func98,ntmps98
 go_wp2_with fail;refine fk.out.mono ?_;rintro e w1⟨dy,bO,cf,rfl,h1,h2,h3,h4,h5,h6,hu⟩;have hal:=(aoV.refl w1).alloc (.cells #[.pointer (some ⟨dy,0,none⟩),.int .u32 0,.int .i32 0,.int .u32 0,.bool false,.int .i64 0] 259);have hnew:=bp w1 (.cells #[.pointer (some ⟨dy,0,none⟩),.int .u32 0,.int .i32 0,.int .u32 0,.bool false,.int .i64 0] 259);have mJ:=aoU hnew;clear hnew;go_wp2_with fail;go_ret;have hs:=hu.size;exact⟨w1.heap.size,dy,bO,cf,rfl,⟨mJ.out,aH hal h1,aH hal h2,aH hal h3,by omega,by omega,by omega,by omega⟩,hs,h4,h5,h6,hu.trans hal⟩
def By(p:Value)(j:Nat):Array Value:= #[if 6<=j then p else .pointer none,if 5<=j then p else .pointer none,if 4<=j then p else .pointer none,if 3<=j then p else .pointer none,if 2<=j then p else .pointer none,if 1<=j then p else .pointer none]
theorem afL(p:Value){j:Nat}(hj:j<6):(By p j).setIfInBounds (5-j) p=By p (j+1):=by
 rcases j with _|_|_|_|_|_|j <;>first|rfl|omega
theorem afM{B dX dy bO cf:Nat}(x:aC)(w:World)(H:qA B dX dy bO cf w):
 Calls prog 232 #[.pointer (some ⟨dy,0,none⟩),.agg #[.int .i64 x.s.toInt,.int .i64 x.k.toInt,.int .u64 x.t.toNat,.int .u64 x.v.toNat,.int .i64 x.x.toInt]] w λe w'=>e= .returned (.agg #[.pointer (some ⟨bO,0,none⟩),.pointer (some ⟨bO,0,none⟩),.pointer (some ⟨bO,0,none⟩),.pointer (some ⟨bO,0,none⟩),.pointer (some ⟨bO,0,none⟩),.pointer (some ⟨bO,0,none⟩)])/\aoV w w':=by
 obtain⟨wb,cN⟩:=bB (((w.alloc (.cells #[.int .i64 x.s.toInt,.int .i64 x.k.toInt,.int .u64 x.t.toNat,.int .u64 x.v.toNat,.int .i64 x.x.toInt] 37)).alloc (.cells #[.pointer none,.pointer none,.pointer none,.pointer none,.pointer none,.pointer none] 330)).alloc (.cells #[.pointer none,.pointer none,.pointer none,.pointer none,.pointer none,.pointer none] 330))
 have aX:aoV w wb:=by rw[cN];exact(((aoV.refl w).alloc _).alloc _).alloc _
 have h4:wb.heap[w.heap.size+1]?=some (.cells #[.pointer none,.pointer none,.pointer none,.pointer none,.pointer none,.pointer none] 330 (0,0)):=by
  rw[cN];refine aH ((aoV.refl _).alloc _) ?_;have:=bp (w.alloc (.cells #[.int .i64 x.s.toInt,.int .i64 x.k.toInt,.int .u64 x.t.toNat,.int .u64 x.v.toNat,.int .i64 x.x.toInt] 37)) (.cells #[.pointer none,.pointer none,.pointer none,.pointer none,.pointer none,.pointer none] 330)
  rwa[fF] at this
 have h5:wb.heap[w.heap.size+1+1]?=some (.cells #[.pointer none,.pointer none,.pointer none,.pointer none,.pointer none,.pointer none] 330 (0,0)):=by
  rw[cN];have:=bp ((w.alloc (.cells #[.int .i64 x.s.toInt,.int .i64 x.k.toInt,.int .u64 x.t.toNat,.int .u64 x.v.toNat,.int .i64 x.x.toInt] 37)).alloc (.cells #[.pointer none,.pointer none,.pointer none,.pointer none,.pointer none,.pointer none] 330)) (.cells #[.pointer none,.pointer none,.pointer none,.pointer none,.pointer none,.pointer none] 330)
  rwa[fF,fF] at this
 have h3:wb.heap[w.heap.size]?=some (.cells #[.int .i64 x.s.toInt,.int .i64 x.k.toInt,.int .u64 x.t.toNat,.int .u64 x.v.toNat,.int .i64 x.x.toInt] 37 (0,0)):=by
  rw[cN];exact aH (((aoV.refl _).alloc _).alloc _) (bp w _)
 have ape:=H.up aX;have c0:=aoW ape.l 0;rw[cN] at c0;have iD:=aoU cN;have yM:=aB H.l;have afN:=aB H.h;have ID:=aB H.n;clear cN H;go_enter func232,ntmps232
 go_wp2_with fail;rw[<- iD.out];have Qh:w.heap.size+1+1<wb.heap.size:=aB h5;have afO:w.heap.size<=w.heap.size+1:=by omega
 have afP:w.heap.size+1≠w.heap.size+1+1:=by omega
 have hq1:bO≠w.heap.size+1/\bO≠w.heap.size+1+1/\cf≠w.heap.size+1/\cf≠w.heap.size+1+1:=by omega
 have Ql:w.heap.size<=w.heap.size+1+1:=by omega
 clear iD c0;generalize eh:w.heap.size+1+1=g5 at *;generalize x7:w.heap.size+1=g4 at *;have Jr:=aoU x7;have Ca:=aoU eh;have SC:wb.heap[g5]?=some (.cells (By (.pointer (some ⟨bO,0,none⟩)) 0) 330 (0,0)):=h5;clear x7 eh h5 h3
 go_loopw[6,7] (λat_ i wr=>∃k:Nat,at_= .pointer (some ⟨bO,0,none⟩)/\i= .int .i64 ((k:Int)-1)/\k<=6/\aoV w wr/\qA B dX dy bO cf wr/\wr.heap[g4]?=some (.cells #[.pointer none,.pointer none,.pointer none,.pointer none,.pointer none,.pointer none] 330 (0,0))/\wr.heap[g5]?=some (.cells (By (.pointer (some ⟨bO,0,none⟩)) (6-k)) 330 (0,0))) (λ_ i _=>(intOf i+1).toNat)
 case atStart=>exact⟨6,rfl,rfl,by omega,aX,ape,h4,SC⟩
 case round=>
  obtain⟨k,rfl,rfl,hk,hu,hm,eX,fM⟩:=hrel;rcases k with _|k
  .rw[show(((0:Nat):Int)-1)= -1 from rfl];have d0:wr.cell? ⟨g5,0,none⟩=some (.pointer (some ⟨bO,0,none⟩)):=(aoW fM 0).trans rfl;have d1:wr.cell? ⟨g5,1,none⟩=some (.pointer (some ⟨bO,0,none⟩)):=(aoW fM 1).trans rfl;have d2:wr.cell? ⟨g5,2,none⟩=some (.pointer (some ⟨bO,0,none⟩)):=(aoW fM 2).trans rfl;have d3:wr.cell? ⟨g5,3,none⟩=some (.pointer (some ⟨bO,0,none⟩)):=(aoW fM 3).trans rfl;have d4:wr.cell? ⟨g5,4,none⟩=some (.pointer (some ⟨bO,0,none⟩)):=(aoW fM 4).trans rfl;have d5:wr.cell? ⟨g5,5,none⟩=some (.pointer (some ⟨bO,0,none⟩)):=(aoW fM 5).trans rfl
   go_wp2_with (first
    |(
     with_reducible show wpList _ _ _ (⟨none,.store 330 _ _,_,_,_,none⟩::_) _ _
     go_loud (refine nW rfl 330 _ _ rfl (g:=g4) (cells:= #[.pointer (some ⟨bO,0,none⟩),.pointer (some ⟨bO,0,none⟩),.pointer (some ⟨bO,0,none⟩),.pointer (some ⟨bO,0,none⟩),.pointer (some ⟨bO,0,none⟩),.pointer (some ⟨bO,0,none⟩)]) (by kernel_rfl) (by kernel_rfl) eX (by kernel_rfl) rfl (by simp[Value.oneCell']) ?_)
     intro dY hgd dF))
   obtain⟨e0,e1,e2,bG,bT,dt⟩:=iQ hgd;refine dm (v:= .agg #[.pointer (some ⟨bO,0,none⟩),.pointer (some ⟨bO,0,none⟩),.pointer (some ⟨bO,0,none⟩),.pointer (some ⟨bO,0,none⟩),.pointer (some ⟨bO,0,none⟩),.pointer (some ⟨bO,0,none⟩)]) (by simp[results,results232,go_sem,e0,e1,e2,bG,bT,dt]) rfl ?_;exact⟨rfl,gy.up hu dF afO⟩
  .rw[show(((k+1:Nat):Int)-1)=(k:Int) by omega];have d5:=aoW hm.h 5;have dt:wr.cell? ⟨cf,k,none⟩=some (.pointer none):=(aoW hm.n k).trans (by rcases k with _|_|_|_|_|_|k <;>first|rfl|omega);have nx:k<6:=by omega
   go_wp2_with fail;refine(SB _ _ (by first|exact dt|simpa using dt)).mono ?_;rintro e w2⟨rfl,rfl⟩;go_wp2_with fail;go_loopw[6,8] (λat_ n wr=>at_= .pointer (some ⟨bO,0,none⟩)/\n= .pointer none/\aoV w wr/\qA B dX dy bO cf wr/\wr.heap[g4]?=some (.cells #[.pointer none,.pointer none,.pointer none,.pointer none,.pointer none,.pointer none] 330 (0,0))/\wr.heap[g5]?=some (.cells (By (.pointer (some ⟨bO,0,none⟩)) (6-(k+1))) 330 (0,0))) (λ_ _ _=>0)
   case atStart=>exact⟨rfl,rfl,hu,hm,eX,fM⟩
   case round=>
    obtain⟨rfl,rfl,hu1,sq,Pg,gq⟩:=hrel;go_wp2_with fail;apply V.fQ (λW=>aoV wr W) (by kernel_rfl) (by kernel_rfl) (λW hW=>hW)
    .intro aF aoX;iterate 3 (apply V.aj.ok;intros;go_simp;rfl;rfl;go_frame)
     iterate 6 (apply V.aj.sL (t:=26) (y:=false);(· rfl);(· intro vs;rfl);(· rfl);simp only[au,Nat.reduceAdd])
     iterate 1 (apply V.aj.ok;intros;go_simp;rfl;rfl;go_frame)
     apply V.aj.fin [];intro vs w1 hK hS _;refine aoX.out _ _ ?_;clear aoX;have aq:=hu1.trans hS;have hm2:=sq.up hS;have afQ:=aH hS Pg;have Ny:=aH hS gq;clear eX fM Pg gq hu hm sq hu1 d5 dt;have c5:w1.cell? ⟨g5,k,none⟩=some (By (.pointer (some ⟨bO,0,none⟩)) (6-(k+1)))[k]!:=(aoW Ny k).trans (by rcases k with _|_|_|_|_|_|k <;>first|rfl|omega);have f5:=ay Ny k;have bC:=bM w1 g5 k (.pointer (some ⟨bO,0,none⟩)) _ _ Ny
     have hks:V.af (λz=>z=g5) w1 (w1.setCell ⟨g5,k,none⟩ (.pointer (some ⟨bO,0,none⟩))):=aoZ _ _ g5 k _ (V.af.refl _ _);have w8:(By (.pointer (some ⟨bO,0,none⟩)) (6-(k+1))).setIfInBounds k (.pointer (some ⟨bO,0,none⟩))=By (.pointer (some ⟨bO,0,none⟩)) (6-k):=by
      have h9:=afL (.pointer (some ⟨bO,0,none⟩)) (j:=6-(k+1)) (by omega);rw[show 5-(6-(k+1))=k by omega,show 6-(k+1)+1=6-k by omega] at h9;exact h9
     rw[w8] at bC;have hne:g4≠g5:=afP;have afR:=cL hks afQ hne;have Mp:dX≠g5/\dy≠g5/\bO≠g5/\cf≠g5:=by
      have t5:=Ny;refine⟨λe=>?_,λe=>?_,λe=>?_,λe=>?_⟩
      .have h:=hm2.q;rw[e] at h;exact absurd (cS h t5) (by decide)
      .have h:=hm2.l;rw[e] at h;exact absurd (cS h t5) (by decide)
      .have h:=hm2.h;rw[e] at h;exact absurd (cS h t5) (by decide)
      .have h:=hm2.n;rw[e] at h;exact absurd (cS h t5) (by decide)
     have lB:=hm2.keep hks Mp;have bV:aoV w (w1.setCell ⟨g5,k,none⟩ (.pointer (some ⟨bO,0,none⟩))):=gy.up aq hks Ql;have hG:=aoU bC;clear bC w8 Mp;go_wp2_with fail;exact⟨⟨k,rfl,by first|rfl|go_num|simp,by omega,bV,lB,afR,hG.out⟩,by simp[intOf]⟩
    .kernel_rfl
end
section
open Go.RowKit Go.Maps
theorem ahh(A:Option Addr)(c:Nat)(w:World):
 Calls prog 158 #[.slice A 0 c] w λe w'=>e= .returned (.tuple #[.slice none 0 0,.int .i64 0,.int .i64 0])/\aoV w w':=by
 have hsp:=WX A 0 c [] w Rd.empty (by omega) (Nat.zero_le _);rw[show li []=([],[],0,0) from rfl] at hsp
 (try dsimp only at hsp)
 have Dn:=aoU hsp;clear hsp;go_enter func158,ntmps158
 go_wp2_with fail;refine Dn.out.mono ?_;rintro e w2⟨K,kn,kc,R,rn,rc,ps,rfl,hK,hR,hP,aq⟩
 (try dsimp only at hK hR hP|-)
 have jW:rn=0:=by have h:=hR.1;have h2:=congrArg List.length hP.1;rw[iZ] at h h2;have h3:=h2.trans (rfl:_=0);omega
 have hkn:kn=0:=by have h:=hK.1;unfold wO at h;rw[iZ] at h;simp at h;omega
 subst jW hkn;clear Dn hK hR hP;go_wp2_with fail;go_loopw[2,3,26] (λg x i wr=>g= .slice none 0 0/\x= .int .i64 0/\i= .int .i64 0/\wr=w2) (λ_ _ _ _=>0)
 case atStart=>exact⟨rfl,rfl,rfl,rfl⟩
 case round=>
  obtain⟨rfl,rfl,rfl,rfl⟩:=hrel;go_wp2_with fail;refine dm (v:= .tuple #[.slice none 0 0,.int .i64 0,.int .i64 0]) (by simp[results,results158,go_sem]) rfl ?_;exact⟨rfl,aq⟩
theorem ahi{B:Nat}{h:cQ}{d:aV}{w:World}(H:bD B h d w)(hok:dx d)(nm:List UInt8)(hs:nm.length<=9223372036854775807)(hrd:rP d nm=([],0)):
 Calls prog 100 #[.pointer (some ⟨h.g,0,none⟩),.string (tx nm)] w λe w'=>∃gl,e= .returned (.tuple #[.pointer (some ⟨gl,0,none⟩),.slice none 0 0,.bool true,.int .i64 0])/\mh gl h.g nm 0 0 false w'/\w.heap.size<=gl/\aoV w w':=by
 have hc:=Hn H hok nm hs;rw[hrd] at hc
 (try dsimp only at hc)
 have bh:=aoU hc;clear hc;go_enter func100,ntmps100
 go_wp2_with fail;refine bh.out.mono ?_;rintro e w1⟨R,n,c,rfl,hR,hu1⟩;have hn:n=0:=hR.rd.gO;subst hn;clear bh hR;go_wp2_with fail;refine(ahh R c w1).mono ?_;rintro e w2⟨rfl,aq⟩;obtain⟨w3,tm⟩:=bB (w2.alloc (.cells #[.pointer (some ⟨h.g,0,none⟩),.string (tx nm),.int .i64 0,.int .i64 0,.bool false] 264))
 have bV:aoV w2 w3:=by rw[tm];exact(aoV.refl w2).alloc _
 have mQ:w3.heap[w2.heap.size]?=some (.cells #[.pointer (some ⟨h.g,0,none⟩),.string (tx nm),.int .i64 0,.int .i64 0,.bool false] 264 (0,0)):=by rw[tm];exact bp w2 _
 have Nz:=aoU tm;have fL:=hu1.trans aq;have eG:w.heap.size<=w2.heap.size:=fL.size;clear tm;go_wp2_with fail;rw[<- Nz.out];clear Nz;have sB:=fL.trans bV;generalize w2.heap.size=gl at *;refine(RA gl 3 0 0 w3 (aoW mQ 3) (ay mQ 3)).mono ?_;rintro e w4⟨rfl,qt⟩;have hb4:w4.heap[gl]?=some (.cells #[.pointer (some ⟨h.g,0,none⟩),.string (tx nm),.int .i64 0,.int .i64 0,.bool false] 264 (0,0)):=by rw[qt];exact bM w3 gl 3 _ _ _ mQ
 have qp:V.af (λk=>k=gl) w3 w4:=by rw[qt];exact aoZ _ _ _ _ _ (V.af.refl _ _)
 have zo:aoV w w4:=lK sB eG qp;have Av:=λ(W:World)(hW:aoV w4 W)=>aoW (aH hW hb4) 4
 simp only[List.getElem?_toArray,List.getElem?_cons_zero,List.getElem?_cons_succ] at Av;clear qt qp mQ sB bV aq hu1 fL;go_wp2_with fail;apply V.fQ _ (by kernel_rfl) (by kernel_rfl) Av
 .intro aF aoX;iterate 11 (apply V.aj.ok;intros;go_simp;rfl;rfl;go_frame)
  apply V.aj.fin [];intro vs w1 hK hS _;refine aoX.out _ _ ?_;clear aoX;have cI:=jR hK;clear hS hK;go_wp2_with fail;refine dm (v:= .tuple #[.pointer (some ⟨gl,0,none⟩),.slice none 0 0,.bool true,.int .i64 0]) (by simp[results,results100,go_sem]) rfl ?_;exact⟨gl,rfl,aH cI hb4,eG,zo.trans cI⟩
 .kernel_rfl
structure lT(B g j:Nat)(cs:Array Value)(vR:TypeId)(L:Option Addr)(n rc:Nat)(et:TypeId)(sz:Nat)(xs ev:List Value)(aW:World->Prop)(a:Nat)(wb:World)(i:Nat)(vs:V.bY)(W:World):Prop where
 kept:V.af (λk=>k=g\/bg L k) wb W
 more:aW W
 blk:i<=2->W.heap[g]?=some (.cells cs vR (0,0))
 row:i<=1->W.ownsRow B et sz (.slice L n rc) n xs
 one:i=1->∃Q,vs a= .slice (some ⟨Q,0,none⟩) 1 1/\W.ownsRow wb.heap.size et sz (.slice (some ⟨Q,0,none⟩) 1 1) 1 ev
 two:i=2->∃L' rc',vs (a+1)= .slice L' (n+1) rc'/\W.ownsRow B et sz (.slice L' (n+1) rc') (n+1) (xs++ev)/\∀k,bg L' k->bg L k\/wb.heap.size<=k
 fin:i=3->∃L' rc',W.heap[g]?=some (.cells (cs.setIfInBounds j (.slice L' (n+1) rc')) vR (0,0))/\W.ownsRow B et sz (.slice L' (n+1) rc') (n+1) (xs++ev)/\∀k,bg L' k->bg L k\/wb.heap.size<=k
section
variable{B g j:Nat}{cs:Array Value}{vR:TypeId}{L:Option Addr}{n rc:Nat}{et:TypeId}{sz:Nat}{xs ev:List Value}{aW:World->Prop}{a:Nat}{wb W:World}{vs:V.bY}
theorem lT.start(h1:wb.heap[g]?=some (.cells cs vR (0,0)))(h2:wb.ownsRow B et sz (.slice L n rc) n xs)(h3:aW wb.drew)(vs:V.bY):lT B g j cs vR L n rc et sz xs ev aW a wb 0 vs wb.drew:=
 ⟨V.af.co (aoV.drew (aoV.refl wb)),h3,λ_=>aH (aoV.drew (aoV.refl wb)) h1,λ_=>el h2 (aoV.drew (aoV.refl wb)),λe=>absurd e (by decide),λe=>absurd e (by decide),λe=>absurd e (by decide)⟩
theorem lT.build(h:lT B g j cs vR L n rc et sz xs ev aW a wb 0 vs W)(hX:∀W',aoV W W'->aW W->aW W')(hs:ev.length=1*sz):
 lT B g j cs vR L n rc et sz xs ev aW a wb 1 (V.fU vs a (.slice (some ⟨W.heap.size,0,none⟩) 1 1)) (W.alloc (.cells ev.toArray et)):=by
 have hal:=(aoV.refl W).alloc (.cells ev.toArray et);have jW:=wt W ev.toArray et (base:=wb.heap.size) (sz:=sz) (n:=1) h.kept.size (by simpa using hs) (by omega);exact⟨ci h.kept (V.af.co hal),hX _ hal h.more,λ_=>aH hal (h.blk (by decide)),λ_=>el (h.row (by decide)) hal,λ_=>⟨W.heap.size,by rw[V.eV],by simpa using jW⟩,λe=>absurd e (by decide),λe=>absurd e (by decide)⟩
theorem lT.append{W':World}{L':Option Addr}{rc':Nat}(h:lT B g j cs vR L n rc et sz xs ev aW a wb 1 vs W)(ahR:¬bg L g)(hX:V.af (λk=>bg L k) W W'->aW W->aW W')(ho:W'.ownsRow B et sz (.slice L' (n+1) rc') (n+1) (xs++ev))(hg:W.grownBy W' (Value.slice L n rc).ownBlock)(hat:(Value.slice L' (n+1) rc').ownBlock=(Value.slice L n rc).ownBlock\/(Value.slice L' (n+1) rc').ownBlock=some W.heap.size):
 lT B g j cs vR L n rc et sz xs ev aW a wb 2 (V.fU vs (a+1) (.slice L' (n+1) rc')) W':=by
 have hKr:=qZ (h.row (by decide)) hg;have sT:=uY hat;exact⟨ci h.kept (eQ hKr (λk hk=> .inr hk)),hX hKr h.more,λ_=>cL hKr (h.blk (by decide)) ahR,λe=>absurd e (by decide),λe=>absurd e (by decide),λ_=>⟨L',rc',by rw[V.eV],ho,λk hk=>(sT k hk).imp id (λh2=>bQ h.kept.size h2)⟩,λe=>absurd e (by decide)⟩
theorem lT.store(h:lT B g j cs vR L n rc et sz xs ev aW a wb 2 vs W)(hne:et≠vR)(hX:∀v,V.af (λk=>k=g) W (W.setCell ⟨g,j,none⟩ v)->aW W->aW (W.setCell ⟨g,j,none⟩ v)):
 ∃L' rc',vs (a+1)= .slice L' (n+1) rc'/\lT B g j cs vR L n rc et sz xs ev aW a wb 3 vs (W.setCell ⟨g,j,none⟩ (.slice L' (n+1) rc')):=by
 obtain⟨L',rc',e,ho,hi⟩:=h.two rfl;have hb:=h.blk (by decide);have bC:=bM W g j (.slice L' (n+1) rc') _ _ hb;have kQ:V.af (λx=>x=g) W (W.setCell ⟨g,j,none⟩ (.slice L' (n+1) rc')):=aoZ _ _ g j _ (V.af.refl _ _);refine⟨L',rc',e,ci h.kept (eQ kQ (λk hk=> .inl hk)),hX _ kQ h.more,λe=>absurd e (by decide),λe=>absurd e (by decide),λe=>absurd e (by decide),λe=>absurd e (by decide),λ_=>⟨L',rc',bC,iC ho kQ (λk hk e=>?_),hi⟩⟩;have e:k=g:=e;obtain⟨cs',z,q1⟩:=iL ho hk;rw[e] at q1;exact hne (cS q1 hb)
end
end
section
open Go.RowKit
theorem Oa(n:Nat)(w:World)(hn:n<=1000):Calls prog 415 #[.int .i64 n] w λe w'=>e= .returned (.int .i64 (jx n:Int))/\w'=w:=by
 have e1:Int.tdiv (n:Int) 2=((n / 2:Nat):Int):=by rw[Int.tdiv_eq_ediv_of_nonneg (by omega)];omega
 have bG:(n:Int) / 2=((n / 2:Nat):Int):=by omega
 have w3:IntKind.i64.wrap ((n / 2:Nat):Int)=((n / 2:Nat):Int):=IntWalk.i64_in _ (by omega);have w4:IntKind.i64.wrap (((n / 2:Nat):Int)+1)=((n / 2:Nat):Int)+1:=IntWalk.i64_in _ (by omega);have hN:jx n=n / 2+1:=rfl;have ff:=aoU hN;clear hN hn;generalize n / 2=q at *;go_enter func415,ntmps415
 go_wp2_with fail;go_ret;refine⟨?_,rfl⟩;rw[ff.out];simp
end
end Go.Proofs.YtfghplfgndppfaaGreatDoor
