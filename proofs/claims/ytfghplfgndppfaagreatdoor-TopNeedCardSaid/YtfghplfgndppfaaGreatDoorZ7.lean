/- Texts of this claim, joined: Tx, DkA, DkW1, DkW2, DkW3, DkB, DkW5, DkB2, ItemW3, FrameW3, FrameW4, FrameW5, LogB. -/
import Derived.Maps.OwnOps
import Derived.Maps.OwnSet
import Derived.Laws.LoneSync
import Derived.IntWalk
import Derived.Maps.RangeWalk
import Derived.StringKeys
import Derived.StillTailTactics
import Derived.Deep.Cut
import Derived.Deep.CutRange
import Derived.Deep.RegionHeld3
import Derived.Lib.AppendZeros
import Derived.Test.YtfghplfgndppfaaGreatDoorZ3
import Derived.Test.YtfghplfgndppfaaGreatDoorZ6
set_option linter.unusedVariables false
set_option linter.unusedSimpArgs false
set_option maxRecDepth 100000
set_option maxHeartbeats 8000000
namespace Go.Proofs.YtfghplfgndppfaaGreatDoor
open Go.Proofs.Tryz
section
open Go.RowKit
def tx(l:List UInt8):ByteArray:=⟨l.toArray⟩
theorem Aj(l:List UInt8):(tx l).data.toList=l:=by simp[tx]
theorem Ak(l:List UInt8):(tx l).size=l.length:=by simp[tx,ByteArray.size]
section
variable{w w':World}{Y:Nat->Prop}
theorem M4(h:V.qQ Y w w'){g o:Nat}(hl:g<w.heap.size)(hy:Y g):w'.cell? ⟨g,o,none⟩=w.cell? ⟨g,o,none⟩:=mv (h.block g hl hy)
theorem VL(h:V.qQ Y w w'){g o:Nat}{u:Value}(hu:w.cell? ⟨g,o,none⟩=some u)(hy:Y g):w'.cell? ⟨g,o,none⟩=some u:=
 (M4 h (World.block_lt_of_cell? w ⟨g,o,none⟩ hu) hy).trans hu
theorem jR{w w':World}(h:V.af (λ_=>False) w.drew w'):aoV w w':=by
 have:=h.up;exact⟨this.os,this.tape,this.output,this.size,this.block⟩
end
def p8(sz:Nat)(xs:List Value)(v:Value)(W:World):Prop:=∃A n c,v= .slice A n c/\n<=c/\Rd W W.heap.size sz A n xs
theorem p8.tW{sz:Nat}{xs:List Value}{v:Value}{w w':World}{Y:Nat->Prop}(h:p8 sz xs v w)(hs:V.qQ (λg=>Y g\/V.ob v g) w w'):p8 sz xs v w':=by
 obtain⟨A,n,c,rfl,hnc,hr⟩:=h;refine⟨A,n,c,rfl,hnc,hr.1,λhn=>?_⟩;obtain⟨b,o,rfl,hb,hc⟩:=hr.2 hn;exact⟨b,o,rfl,cg hb hs.size,λj u hu=>VL hs (hc j u hu) (.inr rfl)⟩
theorem Eu{w w':World}{E:Nat->Prop}{e:TypeId}{sz n:Nat}{v:Value}{xs:List Value}(h:w'.ownsRow w.heap.size e sz v n xs):∀g,V.ob v g->g<w'.heap.size/\(w.heap.size<=g\/E g):=by
 rcases h.2 with⟨rfl,_⟩|⟨g',cap,cur,rfl,hg,hh,_⟩
 .intro g hg;exact hg.elim
 .rintro g rfl;exact⟨(aB hh),.inl hg⟩
theorem p8.own{w:World}{base:Nat}{e:TypeId}{sz n:Nat}{v:Value}{xs:List Value}(h:w.ownsRow base e sz v n xs):p8 sz xs v w:=by
 obtain⟨A,c,rfl,hr⟩:=Rd.cq h;exact⟨A,n,c,rfl,sH h,hr⟩
theorem tX{w w':World}{base:Nat}{e:TypeId}{sz n:Nat}{v:Value}{xs:List Value}{Y:Nat->Prop}(h:w.ownsRow base e sz v n xs)(hs:V.qQ (λg=>Y g\/V.ob v g) w w'):w'.ownsRow base e sz v n xs:=by
 refine⟨h.1,?_⟩;rcases h.2 with h2|⟨g,cap,cur,rfl,hg,hh,r⟩
 .exact .inl h2
 .exact .inr ⟨g,cap,cur,rfl,hg,(hs.block g (aB hh) (.inr rfl)).trans hh,r⟩
theorem Py{base:Nat}{w:World}{e:TypeId}{sz n:Nat}{v:Value}{xs:List Value}(h:w.ownsRow base e sz v n xs){g:Nat} :v.ownBlock=some g↔V.ob v g:=by
 rcases h.2 with⟨rfl,_⟩|⟨g',cap,cur,rfl,_⟩
 .simp[Value.ownBlock,V.ob]
 .simp[Value.ownBlock,V.ob]
theorem VM{w w':World}{base:Nat}{e:TypeId}{sz n:Nat}{v:Value}{xs:List Value}(h:w.ownsRow base e sz v n xs)(hg:w.grownBy w' v.ownBlock){X:Nat->Prop}(hX:∀g,V.ob v g->X g):V.af X w w':=
 ⟨hg.os,hg.tape,hg.output,hg.size,λk hk hx=>hg.block k hk (λe=>hx (hX k ((Py h).1 e.symm)))⟩
theorem Sb{w w':World}{base n':Nat}{e:TypeId}{sz n:Nat}{v v':Value}{xs xs':List Value}(h:w.ownsRow base e sz v n xs)(h':w'.ownsRow base e sz v' n' xs')(hat:v'.ownBlock=v.ownBlock\/v'.ownBlock=some w.heap.size){X:Nat->Prop}(hX:∀g,V.ob v g->X g):
 ∀g,V.ob v' g->g<w'.heap.size/\(w.heap.size<=g\/X g):=by
 intro g hg;have hb:=(Py h').2 hg;refine⟨?_,?_⟩
 .rcases h'.2 with⟨rfl,_⟩|⟨g',cap,cur,rfl,_,hh,_⟩
  .exact hg.elim
  .have:g'=g:=hg;subst this;exact aB hh
 .rcases hat with hat|hat
  .rw[hat] at hb;exact .inr (hX g ((Py h).1 hb))
  .rw[hat] at hb;injection hb with hb;exact .inl (Nat.le_of_eq hb)
theorem wt(w:World)(cs:Array Value)(t:TypeId){base sz n:Nat}(hb:base<=w.heap.size)(hn:cs.size=n*sz)(hm:n<=9223372036854775807):(w.alloc (.cells cs t)).ownsRow base t sz (.slice (some ⟨w.heap.size,0,none⟩) n n) n cs.toList:=
 ⟨by simpa using hn,.inr ⟨w.heap.size,n,cs,rfl,hb,bp w _,aZ _,by simpa only[maxLen] using hm,hn,by rw[<- hn];exact lV (by simp)⟩⟩
theorem Ls{a:Act}{o:Oper}{x:Operand}{A:Option Addr}{n c B:Nat}{l:List UInt8}{w:World}(ho:o.op= .convert 101 9 x)(hx:a.eval x= .slice A n c)(hr:Rd w B 1 A n (cu l)):(execOp a.eval o).run prog w= .ok (.value (.string (tx l))) w:=by
 have:=cv c hr;unfold execOp;simp only[ho,hx];rw[Sem.run_bind,this];rfl
theorem aoW{w:World}{g:Nat}{cs:Array Value}{t:TypeId}(h:w.heap[g]?=some (.cells cs t (0,0)))(j:Nat):w.cell? ⟨g,j,none⟩=cs[j]?:=cell_of_row w g j cs t (0,0) h
theorem ay{w:World}{g:Nat}{cs:Array Value}{t:TypeId}(h:w.heap[g]?=some (.cells cs t (0,0)))(j:Nat):w.frozen? ⟨g,j,none⟩=false:=by simp[World.frozen?,h]
theorem VN{w:World}{g:Nat}{cs:Array Value}{t:TypeId}(h:w.heap[g]?=some (.cells cs t (0,0))):w.cell? ⟨g,0,none⟩=cs[0]?/\w.cell? ⟨g,1,none⟩=cs[1]?/\w.cell? ⟨g,2,none⟩=cs[2]?:=⟨aoW h 0,aoW h 1,aoW h 2⟩
theorem qb{w:World}{g:Nat}{cs:Array Value}{t:TypeId}(h:w.heap[g]?=some (.cells cs t (0,0))):w.cell? ⟨g,0,none⟩=cs[0]?/\w.cell? ⟨g,1,none⟩=cs[1]?/\w.cell? ⟨g,2,none⟩=cs[2]?/\w.cell? ⟨g,3,none⟩=cs[3]?:=⟨aoW h 0,aoW h 1,aoW h 2,aoW h 3⟩
theorem rK{w:World}{g:Nat}{cs:Array Value}{t:TypeId}(h:w.heap[g]?=some (.cells cs t (0,0))):w.cell? ⟨g,0,none⟩=cs[0]?/\w.cell? ⟨g,1,none⟩=cs[1]?/\w.cell? ⟨g,2,none⟩=cs[2]?/\w.cell? ⟨g,3,none⟩=cs[3]?/\w.cell? ⟨g,4,none⟩=cs[4]?:=⟨aoW h 0,aoW h 1,aoW h 2,aoW h 3,aoW h 4⟩
theorem iQ{w:World}{g:Nat}{cs:Array Value}{t:TypeId}(h:w.heap[g]?=some (.cells cs t (0,0))):w.cell? ⟨g,0,none⟩=cs[0]?/\w.cell? ⟨g,1,none⟩=cs[1]?/\w.cell? ⟨g,2,none⟩=cs[2]?/\w.cell? ⟨g,3,none⟩=cs[3]?/\w.cell? ⟨g,4,none⟩=cs[4]?/\w.cell? ⟨g,5,none⟩=cs[5]?:=⟨aoW h 0,aoW h 1,aoW h 2,aoW h 3,aoW h 4,aoW h 5⟩
theorem pw{w:World}{g:Nat}{cs:Array Value}{t:TypeId}(h:w.heap[g]?=some (.cells cs t (0,0))):w.cell? ⟨g,0,none⟩=cs[0]?/\w.cell? ⟨g,1,none⟩=cs[1]?/\w.cell? ⟨g,2,none⟩=cs[2]?/\w.cell? ⟨g,3,none⟩=cs[3]?/\w.cell? ⟨g,4,none⟩=cs[4]?/\w.cell? ⟨g,5,none⟩=cs[5]?/\w.cell? ⟨g,6,none⟩=cs[6]?:=⟨aoW h 0,aoW h 1,aoW h 2,aoW h 3,aoW h 4,aoW h 5,aoW h 6⟩
theorem yP{w:World}{g:Nat}{cs:Array Value}{t:TypeId}(h:w.heap[g]?=some (.cells cs t (0,0))):w.cell? ⟨g,0,none⟩=cs[0]?/\w.cell? ⟨g,1,none⟩=cs[1]?/\w.cell? ⟨g,2,none⟩=cs[2]?/\w.cell? ⟨g,3,none⟩=cs[3]?/\w.cell? ⟨g,4,none⟩=cs[4]?/\w.cell? ⟨g,5,none⟩=cs[5]?/\w.cell? ⟨g,6,none⟩=cs[6]?/\w.cell? ⟨g,7,none⟩=cs[7]?:=⟨aoW h 0,aoW h 1,aoW h 2,aoW h 3,aoW h 4,aoW h 5,aoW h 6,aoW h 7⟩
theorem sM(l:List UInt8):(tx l).toList=l:=by rw[ByteArray.toList_eq,Aj]
theorem Lt{a b:List UInt8}(h:a=b):((tx a).toList==(tx b).toList)=true:=by rw[h];simp
theorem VO{a b:List UInt8}(h:a≠b):((tx a).toList==(tx b).toList)=false:=by rw[sM,sM];simpa using h
theorem bM(w:World)(g j:Nat)(u:Value)(cs:Array Value)(t:TypeId)(h:w.heap[g]?=some (.cells cs t (0,0))):(w.setCell ⟨g,j,none⟩ u).heap[g]?=some (.cells (cs.setIfInBounds j u) t (0,0)):=by
 simp[World.setCell,Array.getElem?_modify,h]
theorem aoZ(w w':World)(g j:Nat)(u:Value)(h:V.af (λx=>x=g) w w'):V.af (λx=>x=g) w (w'.setCell ⟨g,j,none⟩ u):=
 ⟨h.os,h.tape,h.output,by simpa[World.setCell] using h.size,λk hk hne=>by
  rw[<- h.block k hk hne];simp only[World.setCell,Array.getElem?_modify];rw[if_neg (λe=>hne e.symm)]⟩
theorem af.weak{X Y:Nat->Prop}{w w':World}(h:V.af X w w')(hxy:∀g,X g->Y g):V.af Y w w':=⟨h.os,h.tape,h.output,h.size,λk hk hn=>h.block k hk λhx=>hn (hxy k hx)⟩
end
section
open Go.RowKit Go.Maps
abbrev ed:=DataW Unit
def cC(s:List UInt8):Lit:= .string s
def fp(i:Nat):ed:= .lit (.int .i64 i)
def mw(D:ed)(n:Nat):Prop:=Tidy D/\∀kl,Maps.has D kl=true->∃i<n,∀z,D.atKey kl z=fp i
def nF(D:ed)(s:List UInt8):Nat:=match D.atKey (cC s) (fp 0) with | .lit (.int .i64 c)=>c.toNat|_=>0
structure iG where
 b:List UInt8
 last:Nat
structure eo where
 kind:Nat
 file:Nat
 a:List UInt8
 b:List UInt8
def eo.cs(t:eo):List Value:= [.int .i64 t.kind,.int .i64 t.file,.string (tx t.a),.string (tx t.b)]
def j7(l:List eo):List Value:=l.flatMap eo.cs
structure aV where
 eA:Nat
 files:List iG
 names:ed
 cw:ed
 turns:List eo
 calls:Nat
 dead:Bool
 stop:Nat
 fail:Nat
structure dx(d:aV):Prop where
 nm:mw d.names d.files.length
 la:mw d.cw d.files.length
 tn:∀t∈d.turns,t.file<d.files.length\/t.kind≠1
 nf:d.files.length<=1000000
 Al:d.turns.length<=1000000
 nG:Maps.size d.names<=1000000
 sl:Maps.size d.cw<=1000000
 fb:∀f∈d.files,f.b.length<=250000/\f.last<=f.b.length
 s:d.stop<=9223372036854775807
 f:d.fail<=9223372036854775807
 q:d.eA<=9223372036854775807
structure sN where
 g:Nat
 A:Option Addr
 c:Nat
structure cQ where
 g:Nat
 fa:Option Addr
 fq:Nat
 aM:List sN
 nb:Nat
 lb:Nat
 ta:Option Addr
 i6:Nat
def tY(l:List sN):List Value:=l.map λf=> .pointer (some ⟨f.g,0,none⟩)
def bW(A:Option Addr)(k:Nat):Prop:=∃a,A=some a/\a.block=k
def aJ(h:cQ)(k:Nat):Prop:=k=h.g\/k=h.nb\/k=h.lb\/bW h.fa k\/bW h.ta k\/∃f∈h.aM,k=f.g\/bW f.A k
def iH(d:aV)(h:cQ):Array Value:= #[.int .i64 d.eA,.slice h.fa d.files.length h.fq,.map (some h.nb),.map (some h.lb),.slice h.ta d.turns.length h.i6,.int .i64 d.calls,.bool d.dead,.int .i64 d.stop,.int .i64 d.fail]
structure Cn(B:Nat)(f:sN)(x:iG)(w:World):Prop where
 blk:w.heap[f.g]?=some (.cells #[.slice f.A x.b.length f.c,.int .i64 x.last] 103 (0,0))
 own:fG w B f.A x.b.length f.c x.b
 base:B<=f.g
structure bD(B:Nat)(h:cQ)(d:aV)(w:World):Prop where
 hd:w.heap[h.g]?=some (.cells (iH d h) 91 (0,0))
 base:B<=h.g
 files:w.ownsRow B 100 1 (.slice h.fa d.files.length h.fq) d.files.length (tY h.aM)
 ly:h.aM.length=d.files.length
 each:∀(i:Nat)(f:sN)(x:iG),h.aM[i]?=some f->d.files[i]?=some x->Cn B f x w
 apart:∀(i j:Nat)(f f':sN),i≠j->h.aM[i]?=some f->h.aM[j]?=some f'->f.g≠f'.g/\∀k,bW f.A k->¬bW f'.A k
 names:w.ownsMap prog 9 (plainElem prog 3) h.nb (Maps.size d.names) d.names
 cw:w.ownsMap prog 9 (plainElem prog 3) h.lb (Maps.size d.cw) d.cw
 nl:h.nb≠h.lb
 tZ:B<=h.nb/\B<=h.lb
 turns:w.ownsRow B 105 4 (.slice h.ta d.turns.length h.i6) d.turns.length (j7 d.turns)
theorem px{w w':World}{base n c:Nat}{e:TypeId}{sz:Nat}{A:Option Addr}{xs:List Value}{X:Nat->Prop}(h:w.ownsRow base e sz (.slice A n c) n xs)(hK:V.af X w w')(hx:∀k,bW A k->¬X k):w'.ownsRow base e sz (.slice A n c) n xs:=by
 refine⟨h.1,?_⟩;rcases h.2 with h2|⟨g,cap,cur,hv,hg,hh,r⟩
 .exact .inl h2
 .refine .inr ⟨g,cap,cur,hv,hg,(hK.block g (aB hh) (hx g ?_)).trans hh,r⟩;injection hv with hA;exact⟨_,hA,rfl⟩
theorem uS{w w':World}{b n:Nat}{D:ed}{X:Nat->Prop}(h:w.ownsMap prog 9 (plainElem prog 3) b n D)(hK:V.af X w w')(hx:¬X b):w'.ownsMap prog 9 (plainElem prog 3) b n D:=by
 have hlt:=h.lt;obtain⟨es,clock,hb,r⟩:=h;exact⟨es,clock,(hK.block b hlt hx).trans hb,r⟩
theorem GX{w:World}{b n:Nat}{D:ed}(h:w.ownsMap prog 9 (plainElem prog 3) b n D):w.ownsMap prog 9 (plainElem prog 3) b (Maps.size D) D:=by
 obtain⟨es,clock,hb,F,hs,rfl⟩:=h;refine⟨es,clock,hb,F,?_,rfl⟩;rw[Maps.size_eq,length_sorted];simp
theorem Cn.kt{B:Nat}{f:sN}{x:iG}{w w':World}{X:Nat->Prop}(h:Cn B f x w)(hK:V.af X w w')(h1:¬X f.g)(h2:∀k,bW f.A k->¬X k):Cn B f x w':=
 ⟨(hK.block _ (aB h.blk) h1).trans h.blk,px h.own hK h2,h.base⟩
theorem bD.kt{B:Nat}{h:cQ}{d:aV}{w w':World}{X:Nat->Prop}(H:bD B h d w)(hK:V.af X w w')(hx:∀k,aJ h k->¬X k):bD B h d w' where
 hd:=(hK.block _ (aB H.hd) (hx _ (.inl rfl))).trans H.hd
 base:=H.base
 files:=px H.files hK (λk hk=>hx k (.inr (.inr (.inr (.inl hk)))))
 ly:=H.ly
 each:=λi f x hf hx2=>(H.each i f x hf hx2).kt hK (hx _ (.inr (.inr (.inr (.inr (.inr ⟨f,lW hf,.inl rfl⟩)))))) (λk hk=>hx k (.inr (.inr (.inr (.inr (.inr ⟨f,lW hf,.inr hk⟩))))))
 apart:=H.apart
 names:=uS H.names hK (hx _ (.inr (.inl rfl)))
 cw:=uS H.cw hK (hx _ (.inr (.inr (.inl rfl))))
 nl:=H.nl
 tZ:=H.tZ
 turns:=px H.turns hK (λk hk=>hx k (.inr (.inr (.inr (.inr (.inl hk))))))
theorem oI{w:World}{base n c:Nat}{e:TypeId}{sz:Nat}{A:Option Addr}{xs:List Value}(h:w.ownsRow base e sz (.slice A n c) n xs){k:Nat}(hk:bW A k):base<=k/\k<w.heap.size:=by
 obtain⟨a,rfl,rfl⟩:=hk;exact h.lt a.block rfl
theorem bD.lt{B:Nat}{h:cQ}{d:aV}{w:World}(H:bD B h d w){k:Nat}(hk:aJ h k):B<=k/\k<w.heap.size:=by
 rcases hk with rfl|rfl|rfl|hk|hk|⟨f,hf,hk⟩
 .exact⟨H.base,(aB H.hd)⟩
 .exact⟨H.tZ.1,H.names.lt⟩
 .exact⟨H.tZ.2,H.cw.lt⟩
 .exact oI H.files hk
 .exact oI H.turns hk
 .obtain⟨i,hi,rfl⟩:=List.getElem_of_mem hf;have hl:=H.ly;have hF:=H.each i h.aM[i] (d.files[i]'(by omega)) (dh hi) (dh (by omega));rcases hk with rfl|hk
  .exact⟨hF.base,(aB hF.blk)⟩
  .exact oI hF.own hk
theorem bD.up{B:Nat}{h:cQ}{d:aV}{w w':World}(H:bD B h d w)(hu:aoV w w'):bD B h d w':=
 H.kt (X:=λk=>¬k<w.heap.size) ⟨hu.os,hu.tape,hu.output,hu.size,λk hk _=>hu.block k hk⟩ (λk hk hn=>hn (H.lt hk).2)
structure dW(h:cQ)(w:World)(h':cQ)(w':World):Prop where
 g:h'.g=h.g
 kept:V.af (aJ h) w w'
 aJ:∀k,aJ h' k->aJ h k\/w.heap.size<=k
theorem dW.refl(h:cQ)(w:World):dW h w h w:=⟨rfl,V.af.refl _ _,λk hk=> .inl hk⟩
theorem af.sO{X:Nat->Prop}{a b c:World}(h:V.af X a b)(k:V.af X b c):V.af X a c:=
 ⟨k.os.trans h.os,k.tape.trans h.tape,k.output.trans h.output,bQ h.size k.size,λi hi hx=>(k.block i (cg hi h.size) hx).trans (h.block i hi hx)⟩
theorem dW.trans{h h' h'':cQ}{w w' w'':World}(x:dW h w h' w')(y:dW h' w' h'' w''):dW h w h'' w'':=by
 refine⟨y.g.trans x.g,⟨y.kept.os.trans x.kept.os,y.kept.tape.trans x.kept.tape,y.kept.output.trans x.kept.output,bQ x.kept.size y.kept.size,λi hi hx=>?_⟩,λk hk=>?_⟩
 .refine(y.kept.block i (cg hi x.kept.size) (λhf=>?_)).trans (x.kept.block i hi hx);rcases x.aJ i hf with h1|h1
  .exact hx h1
  .omega
 .rcases y.aJ k hk with h1|h1
  .exact x.aJ k h1
  .exact .inr (bQ x.kept.size h1)
theorem dW.up{h:cQ}{w w':World}(hu:aoV w w'):dW h w h w':=⟨rfl,V.af.co hu,λk hk=> .inl hk⟩
theorem dW.below{B:Nat}{h h':cQ}{d:aV}{w0 w w':World}(x:dW h w h' w')(H:bD B h d w)(hB:w0.heap.size<=B)(hu:aoV w0 w):aoV w0 w':=
 ⟨x.kept.os.trans hu.os,x.kept.tape.trans hu.tape,x.kept.output.trans hu.output,bQ hu.size x.kept.size,λk hk=>(x.kept.block k (cg hk hu.size) (λhf=>by have:=(H.lt hf).1;omega)).trans (hu.block k hk)⟩
theorem bD.head{B:Nat}{h:cQ}{d d':aV}{w w':World}(H:bD B h d w)(hK:V.af (λk=>k=h.g) w w')(hd:w'.heap[h.g]?=some (.cells (iH d' h) 91 (0,0)))(e1:d'.files=d.files)(e2:d'.names=d.names)(bG:d'.cw=d.cw)(bT:d'.turns=d.turns):bD B h d' w':=by
 have hne:∀k o,w.heap[k]?=some o->o≠ .cells (iH d h) 91 (0,0)->¬k=h.g:=λk o h1 h2 e=>by
  subst e;rw[H.hd] at h1;injection h1 with h1;exact h2 h1.symm
 have hrow:∀{n c:Nat}{e:TypeId}{sz:Nat}{A:Option Addr}{xs:List Value},w.ownsRow B e sz (.slice A n c) n xs->e≠91->∀k,bW A k->¬k=h.g:=by
  intro n c e sz A xs h1 h2 k hk;obtain⟨a,rfl,rfl⟩:=hk;rcases h1.2 with⟨hv,_⟩|⟨g,cap,cur,hv,hg,hh,r⟩
  .cases hv
  .injection hv with hA;injection hA with hA;subst hA;refine hne _ _ hh (λe9=>?_);injection e9 with _ e9;exact h2 e9
 refine⟨hd,H.base,?_,by rw[e1];exact H.ly,λi f x hf hx=>?_,H.apart,?_,?_,H.nl,H.tZ,?_⟩
 .rw[e1];exact px H.files hK (hrow H.files (by decide))
 .rw[e1] at hx;have hF:=H.each i f x hf hx;refine hF.kt hK (hne _ _ hF.blk (λe9=>?_)) (hrow hF.own (by decide));injection e9 with _ e9;exact absurd e9 (by decide)
 .rw[e2];refine uS H.names hK (λe9=>?_);obtain⟨es,clock,hb,_⟩:=H.names;exact hne _ _ hb (by intro py;cases py) e9
 .rw[bG];refine uS H.cw hK (λe9=>?_);obtain⟨es,clock,hb,_⟩:=H.cw;exact hne _ _ hb (by intro py;cases py) e9
 .rw[bT];exact px H.turns hK (hrow H.turns (by decide))
def xQ(c:UInt8):Bool:=(decide (97<=c.toNat)&&decide (c.toNat<=122))||(decide (48<=c.toNat)&&decide (c.toNat<=57))||decide (c.toNat=46)
def j8(l:List UInt8):Bool:=decide (1<=l.length)&&(decide (l.length<=16)&&l.all xQ)
theorem p9{l:List UInt8}{k:Nat}(hk:k<l.length)(h:xQ (l.getD k 0)=false):j8 l=false:=by
 have hg:l.getD k 0=l[k]:=by rw[oc,dh hk];rfl
 rw[hg] at h;have:l.all xQ=false:=by
  rw[List.all_eq_false];exact⟨l[k],List.getElem_mem _,by rw[h];decide⟩
 unfold j8;rw[this];simp
theorem C5{l:List UInt8}(h1:1<=l.length)(h2:l.length<=16)(h:∀j,j<l.length->xQ (l.getD j 0)=true):j8 l=true:=by
 have:l.all xQ=true:=by
  rw[List.all_eq_true];intro c hc;obtain⟨j,hj,rfl⟩:=List.getElem_of_mem hc;have:=h j hj
  rwa[oc,dh hj] at this
 unfold j8;rw[this];simp
 omega
theorem nS{s:ByteArray}{l:List UInt8}(hs:s.data.toList=l){k:Nat}(hk:k<s.size):s[k]=l.getD k 0:=by
 subst hs;have h:k<s.data.size:=hk;show s.data[k]=_;simp only[List.getD,Array.getElem?_toList,mV h,Option.getD_some]
theorem l5(s:ByteArray)(l:List UInt8)(w:World)(hs:s.data.toList=l)(hn:s.size<=9223372036854775807):
 Calls prog 215 #[.string s] w λe w'=>e= .returned (.bool (j8 l))/\w=w':=by
 have hz:s.size=l.length:=by subst hs;rfl
 have dg:=aoU hs;have jh:=aoU hz;clear hs hz;by_cases h1:s.size<1
 .have hb:j8 l=false:=by unfold j8;rw[decide_eq_false (by have:=jh.out;omega)];rfl
  have gD:=aoU hb;clear hb;go_enter func215,ntmps215
  have VP:(s.size:Int)<1:=by omega
  go_wp2_with fail;go_ret;rw[gD.out];exact⟨rfl,rfl⟩
 by_cases h2:16<s.size
 .have hb:j8 l=false:=by unfold j8;rw[decide_eq_false (show¬l.length<=16 by have:=jh.out;omega)];simp
  have gD:=aoU hb;clear hb;have VP:¬(s.size:Int)<1:=by omega
  have l6:(16:Int)<(s.size:Int):=by omega
  go_enter func215,ntmps215
  go_wp2_with fail;go_ret;rw[gD.out];exact⟨rfl,rfl⟩
 have VP:¬(s.size:Int)<1:=by omega
 have l6:¬(16:Int)<(s.size:Int):=by omega
 go_enter func215,ntmps215
 go_wp2_with fail;go_loop [15] (λi=>∃k:Nat,i= .int .i64 k/\k<=s.size/\Hid (∀j,j<k->xQ (l.getD j 0)=true)) (λi=>s.size-(intOf i).toNat)
 case atStart=>exact⟨0,rfl,by omega,λj hj=>by omega⟩
 case round=>
  obtain⟨k,rfl,hk,hok⟩:=hrel;by_cases hlt:k<s.size
  .have qX:k<l.length:=by have:=jh.out;omega
   have hgd:=nS dg.out hlt;have rL:=aoU (@p9 l k qX);have Lu:Hid (xQ (l.getD k 0)=true->∀j,j<k+1->xQ (l.getD j 0)=true):=λh j hj=>by
    by_cases hjk:j=k
    .subst hjk;exact h
    .exact hok.out j (by omega)
   generalize l.getD k 0=ch at *;have hcb:=ch.toNat_lt;have yQ:(k:Int)<(s.size:Int):=by omega
   have bh:xQ ch=(decide (97<=ch.toNat)&&decide (ch.toNat<=122)||(decide (48<=ch.toNat)&&decide (ch.toNat<=57))||decide (ch.toNat=46)):=rfl;cases hc:xQ ch with
   |true=>
    have C4:=aoU (Lu.out hc);have hcs:(97<=ch.toNat/\ch.toNat<=122)\/(48<=ch.toNat/\ch.toNat<=57)\/ch.toNat=46:=by
     rw[hc] at bh;have:=bh.symm;simp only[Bool.or_eq_true,ij,decide_eq_true_eq] at this;omega
    clear bh hc Lu rL;go_wp2_with fail;all_goals first
     |(exfalso;simp only[bne_iff_ne,ne_eq,bne_eq_false_iff_eq] at *;omega)
     |(
      go_round
      case rel=>exact⟨k+1,by go_num,by omega,C4⟩
      case measure=>simp[intOf];omega)
   |false=>
    have Ev:=aoU (rL.out hc);have hcs:¬(97<=ch.toNat/\ch.toNat<=122)/\¬(48<=ch.toNat/\ch.toNat<=57)/\¬ch.toNat=46:=by
     rw[hc] at bh;have:=bh.symm;simp only[Bool.or_eq_false_iff,Bool.and_eq_false_iff,iO] at this;omega
    clear bh hc Lu rL;go_wp2_with fail;all_goals first
     |(exfalso;simp only[bne_iff_ne,ne_eq,bne_eq_false_iff_eq] at *;omega)
     |(go_ret;rw[Ev.out];exact⟨rfl,rfl⟩)
  .have yQ:¬(k:Int)<(s.size:Int):=by omega
   have hb:j8 l=true:=C5 (by have:=jh.out;omega) (by have:=jh.out;omega) (λj hj=>hok.out j (by have:=jh.out;omega));have gD:=aoU hb;clear hb;go_wp2_with fail;go_ret;rw[gD.out];exact⟨rfl,rfl⟩
theorem VQ(l:List UInt8)(w:World)(hn:l.length<=9223372036854775807):Calls prog 215 #[.string (tx l)] w λe w'=>e= .returned (.bool (j8 l))/\w=w':=
 l5 (tx l) l w (Aj l) (by rw[Ak];exact hn)
theorem VR(g o:Nat)(x y:Int)(w:World)(hc:w.cell? ⟨g,o,none⟩=some (.int .i64 x))(hz:w.frozen? ⟨g,o,none⟩=false)(hb: -9223372036854775808<=x+y/\x+y<=9223372036854775807):
 Calls prog 119 #[.pointer (some ⟨g,o,none⟩),.int .i64 y] w λe w'=>e= .returned (.int .i64 (x+y))/\w'=w.setCell ⟨g,o,none⟩ (.int .i64 (x+y)):=by
 have hwr:IntKind.i64.wrap (x+y)=x+y:=IntWalk.i64_in _ hb;have wu:=run_call_add (P:=prog) func190 (by kernel_rfl) (by kernel_rfl) (by kernel_rfl) .i64 (by kernel_rfl) (y:=y) (s:=x+y) hc hz (by simp[go_sem];exact hwr);clear hwr;go_enter func119,ntmps119
 go_wp2_with fail;go_ret;exact⟨rfl,rfl⟩
theorem GY{B:Nat}{h:cQ}{d:aV}{w:World}(H:bD B h d w):Calls prog 94 #[.pointer (some ⟨h.g,0,none⟩)] w λe w'=>e= .returned (.bool d.dead)/\w'=w:=by
 have hc:=aoW H.hd 6;replace hc:w.cell? ⟨h.g,6,none⟩=some (.bool d.dead):=hc;go_enter func94,ntmps94
 go_wp2_with fail;go_ret;exact⟨rfl,rfl⟩
def oJ(d:aV):aV:=if d.stop=0 then d else { d with stop:=d.stop-1,dead:=decide (d.stop-1=0) }
def iI(d:aV):aV×Nat:=
 if d.dead=true then({ d with calls:=d.calls+1 },50)
 else if d.fail=0 then(oJ { d with calls:=d.calls+1 },0)
 else if d.fail=1 then({ oJ { d with calls:=d.calls+1 } with fail:=0 },15)
 else({ oJ { d with calls:=d.calls+1 } with fail:=d.fail-1 },0)
def ao1(L:List (List UInt8))(d:aV):aV×Nat:=if L.all j8=true then iI d else(d,10)
theorem Ra(d:aV):(oJ d).files=d.files/\(oJ d).names=d.names/\(oJ d).cw=d.cw/\(oJ d).turns=d.turns/\(oJ d).eA=d.eA/\(oJ d).calls=d.calls/\(oJ d).stop<=d.stop/\(oJ d).fail=d.fail:=by
 unfold oJ;split;exact⟨rfl,rfl,rfl,rfl,rfl,rfl,aZ _,rfl⟩;exact⟨rfl,rfl,rfl,rfl,rfl,rfl,Nat.sub_le _ _,rfl⟩
theorem o6(d:aV):(iI d).1.files=d.files/\(iI d).1.names=d.names/\(iI d).1.cw=d.cw/\(iI d).1.turns=d.turns/\(iI d).1.eA=d.eA/\(iI d).1.calls=d.calls+1/\(iI d).1.stop<=d.stop/\(iI d).1.fail<=d.fail:=by
 have h:=Ra { d with calls:=d.calls+1 };simp only[] at h;obtain⟨h1,h2,h3,h4,h5,h6,h7,h8⟩:=h;unfold iI;split;exact⟨rfl,rfl,rfl,rfl,rfl,rfl,aZ _,aZ _⟩
 .split;exact⟨h1,h2,h3,h4,h5,h6,h7,Nat.le_of_eq h8⟩
  .split;exact⟨h1,h2,h3,h4,h5,h6,h7,Nat.zero_le _⟩;exact⟨h1,h2,h3,h4,h5,h6,h7,Nat.sub_le _ _⟩
theorem uT(L:List (List UInt8))(d:aV):(ao1 L d).1.files=d.files/\(ao1 L d).1.names=d.names/\(ao1 L d).1.cw=d.cw/\(ao1 L d).1.turns=d.turns/\(ao1 L d).1.eA=d.eA/\(ao1 L d).1.calls<=d.calls+1/\(ao1 L d).1.stop<=d.stop/\(ao1 L d).1.fail<=d.fail:=by
 unfold ao1;split
 .have h:=o6 d;exact⟨h.1,h.2.1,h.2.2.1,h.2.2.2.1,h.2.2.2.2.1,Nat.le_of_eq h.2.2.2.2.2.1,h.2.2.2.2.2.2⟩
 .exact⟨rfl,rfl,rfl,rfl,rfl,Nat.le_succ _,aZ _,aZ _⟩
theorem wv{L:List (List UInt8)}{d:aV}(h:dx d):dx (ao1 L d).1:=by
 obtain⟨h1,h2,h3,h4,h5,h6,h7,h8⟩:=uT L d;refine⟨by rw[h1,h2];exact h.nm,by rw[h1,h3];exact h.la,by rw[h1,h4];exact h.tn,by rw[h1];exact h.nf,by rw[h4];exact h.Al,by rw[h2];exact h.nG,by rw[h3];exact h.sl,by rw[h1];exact h.fb,bQ h7 h.s,bQ h8 h.f,by rw[h5];exact h.q⟩
def qd(L:List (List UInt8)):List Value:=L.map λs=> .string (tx s)
theorem bD.Co{B:Nat}{h:cQ}{d:aV}(d':aV){w:World}(H:bD B h d w)(i:Nat)(v:Value)(hv:(iH d h).setIfInBounds i v=iH d' h)(e1:d'.files=d.files)(e2:d'.names=d.names)(bG:d'.cw=d.cw)(bT:d'.turns=d.turns):
 bD B h d' (w.setCell ⟨h.g,i,none⟩ v)/\dW h w h (w.setCell ⟨h.g,i,none⟩ v):=by
 have hK:V.af (λk=>k=h.g) w (w.setCell ⟨h.g,i,none⟩ v):=aoZ _ _ _ _ _ (V.af.refl _ _);refine⟨H.head hK ?_ e1 e2 bG bT,rfl,af.weak hK (λk hk=> .inl hk),λk hk=> .inl hk⟩;rw[bM w h.g i v _ _ H.hd,hv]
theorem Ew{B:Nat}{h:cQ}{d:aV}{w:World}(H:bD B h d w)(hok:dx d)(cn:d.calls<=1000000000)(L:List (List UInt8))(A:Option Addr)(n c:Nat)(hr:Rd w w.heap.size 1 A n (qd L))(hl:∀s∈L,s.length<=9223372036854775807)(hn:n<=1000):
 Calls prog 219 #[.pointer (some ⟨h.g,0,none⟩),.slice A n c] w λe w'=>e= .returned (.int .i64 ((ao1 L d).2:Int))/\bD B h (ao1 L d).1 w'/\dW h w h w':=by
 obtain⟨eA,files,names,cw,turns,calls,dead,stop,fail⟩:=d
 (try dsimp only at cn)
 have hnl:n=L.length:=by have:=hr.1;simp[qd] at this;omega
 have lz:=aoU hnl;have Ex:stop<=9223372036854775807:=hok.s;have Am:fail<=9223372036854775807:=hok.f;have c5:w.cell? ⟨h.g,5,none⟩=some (.int .i64 calls):=aoW H.hd 5;have z5:=ay H.hd 5;have wu:=λ(W:World)(hc:W.cell? ⟨h.g,5,none⟩=some (.int .i64 calls))(hz:W.frozen? ⟨h.g,5,none⟩=false)=>VR h.g 5 (calls:Int) 1 W hc hz (by omega)
 have GZ:=aoU wu;clear hnl wu;go_enter func219,ntmps219
 go_wp2_with fail;go_loopw[9] (λi wr=>∃k:Nat,i= .int .i64 k/\k<=n/\wr=w/\Hid ((L.take k).all j8=true)) (λi _=>n-(intOf i).toNat)
 case atStart=>exact⟨0,rfl,by omega,rfl,rfl⟩
 case round=>
  obtain⟨k,rfl,hk,rfl,hall⟩:=hrel;by_cases hlt:k<n
  .have bS:k<L.length:=by have:=lz.out;omega
   obtain⟨b,o,rfl,hb,hcell⟩:=hr.2 (by omega);have hc:=hcell k (.string (tx L[k])) (by simp[qd,bS]);have hlk:=hl L[k] (List.getElem_mem _);have jF:(L.take (k+1)).all j8=((L.take k).all j8&&j8 L[k]):=by rw[List.take_add_one,List.all_append,dh bS];simp
   have yR:j8 L[k]=false->L.all j8=false:=λh9=>by
    rw[List.all_eq_false];exact⟨_,List.getElem_mem bS,by rw[h9];decide⟩
   have kW:=aoU jF;have rL:=aoU yR;have yQ:(k:Int)<(n:Int):=by omega
   generalize L[k]=s at *;clear jF yR hcell;go_wp2_with fail;refine(VQ s _ hlk).mono ?_;rintro e w1⟨rfl,rfl⟩;cases hnb:j8 s with
   |true=>
    have o8:Hid ((L.take (k+1)).all j8=true):=by
     show _=_;rw[kW.out,hall.out,hnb];rfl
    clear hnb;go_wp2_with fail;go_roundw
    case rel=>exact⟨k+1,by go_num,by omega,by trivial,o8⟩
    case measure=>simp[intOf];omega
   |false=>
    have G8:ao1 L ⟨eA,files,names,cw,turns,calls,dead,stop,fail⟩=(⟨eA,files,names,cw,turns,calls,dead,stop,fail⟩,10):=by unfold ao1;rw[rL.out hnb];rfl
    have uU:=aoU G8;clear hnb G8;go_wp2_with fail;go_ret;rw[uU.out];exact⟨rfl,H,dW.refl _ _⟩
  .have yQ:¬(k:Int)<(n:Int):=by omega
   have G8:ao1 L ⟨eA,files,names,cw,turns,calls,dead,stop,fail⟩=iI ⟨eA,files,names,cw,turns,calls,dead,stop,fail⟩:=by
    unfold ao1;have h9:=hall.out;rw[lV (by have:=lz.out;omega)] at h9;rw[if_pos h9]
   have uU:=aoU G8;clear G8;go_wp2_with fail;refine(GZ.out _ c5 z5).mono ?_;rintro e w1⟨rfl,rfl⟩;obtain⟨H1,iR⟩:=H.Co ⟨eA,files,names,cw,turns,calls+1,dead,stop,fail⟩ 5 (.int .i64 ((calls:Int)+1)) (by simp[iH]) rfl rfl rfl rfl;clear c5 z5 hr GZ hok hall;generalize wr.setCell ⟨h.g,5,none⟩ (.int .i64 ((calls:Int)+1))=w1 at *;go_wp2_with fail;refine(GY H1).mono ?_;rintro e w2⟨rfl,rfl⟩
   (try dsimp only)
   cases dead with
   |true=>
    go_wp2_with fail;go_ret;rw[uU.out];exact⟨rfl,H1,iR⟩
   |false=>
    have pz:w2.cell? ⟨h.g,7,none⟩=some (.int .i64 stop):=aoW H1.hd 7;have VS:=ay H1.hd 7;have gF:w2.cell? ⟨h.g,6,none⟩=some (.bool false):=aoW H1.hd 6;have VU:=ay H1.hd 6;have uV:w2.cell? ⟨h.g,8,none⟩=some (.int .i64 fail):=aoW H1.hd 8;have VV:=ay H1.hd 8;by_cases hs:stop=0
    .have hsi:¬(0:Int)<(stop:Int):=by omega
     have hcd:oJ ⟨eA,files,names,cw,turns,calls+1,false,stop,fail⟩=⟨eA,files,names,cw,turns,calls+1,false,stop,fail⟩:=by unfold oJ;rw[if_pos hs]
     have dg:=aoU hs;have ww:=aoU hcd;clear hs hcd;by_cases hf:fail=0
     .have cm:¬(0:Int)<(fail:Int):=by omega
      have lA:iI ⟨eA,files,names,cw,turns,calls,false,stop,fail⟩=(⟨eA,files,names,cw,turns,calls+1,false,stop,fail⟩,0):=by
       unfold iI;rw[if_neg (by simp),if_pos hf,ww.out]
      have qf:=aoU lA;clear lA hf;go_wp2_with fail;go_ret;rw[uU.out,qf.out];exact⟨rfl,H1,iR⟩
     .have cm:(0:Int)<(fail:Int):=by omega
      obtain⟨H3,ik⟩:=(H1).Co ⟨eA,files,names,cw,turns,calls+1,false,stop,fail-1⟩ 8 (.int .i64 ((fail:Int)-1)) (by simp[iH];omega) rfl rfl rfl rfl;have VX:((w2).setCell ⟨h.g,8,none⟩ (.int .i64 ((fail:Int)-1))).cell? ⟨h.g,8,none⟩=some (.int .i64 ((fail:Int)-1)):=by
       have h9:=aoW H3.hd 8;rw[h9];simp[iH]
       omega
      by_cases jG:fail=1
      .have uW:((fail:Int)-1==0)=true:=by rw[beq_iff_eq];omega
       have lA:iI ⟨eA,files,names,cw,turns,calls,false,stop,fail⟩=(⟨eA,files,names,cw,turns,calls+1,false,stop,fail-1⟩,15):=by
        unfold iI;rw[if_neg (by simp),if_neg hf,if_pos jG,ww.out,jG]
       have qf:=aoU lA;clear lA hf jG;go_wp2_with fail;go_ret;rw[uU.out,qf.out];exact⟨rfl,H3,(iR).trans ik⟩
      .have uW:((fail:Int)-1==0)=false:=by rw[beq_eq_false_iff_ne];omega
       have lA:iI ⟨eA,files,names,cw,turns,calls,false,stop,fail⟩=(⟨eA,files,names,cw,turns,calls+1,false,stop,fail-1⟩,0):=by
        unfold iI;rw[if_neg (by simp),if_neg hf,if_neg jG,ww.out]
       have qf:=aoU lA;clear lA hf jG;go_wp2_with fail;go_ret;rw[uU.out,qf.out];exact⟨rfl,H3,(iR).trans ik⟩
    .have hsi:(0:Int)<(stop:Int):=by omega
     obtain⟨H2,eN⟩:=H1.Co ⟨eA,files,names,cw,turns,calls+1,false,stop-1,fail⟩ 7 (.int .i64 ((stop:Int)-1)) (by simp[iH];omega) rfl rfl rfl rfl;have amr:(w2.setCell ⟨h.g,7,none⟩ (.int .i64 ((stop:Int)-1))).cell? ⟨h.g,7,none⟩=some (.int .i64 ((stop:Int)-1)):=by
      rw[aoW H2.hd 7];simp[iH]
      omega
     have gE:(w2.setCell ⟨h.g,7,none⟩ (.int .i64 ((stop:Int)-1))).cell? ⟨h.g,6,none⟩=some (.bool false):=aoW H2.hd 6;have ams:=ay H2.hd 6;by_cases hs1:stop=1
     .have wx:((stop:Int)-1==0)=true:=by rw[beq_iff_eq];omega
      have hcd:oJ ⟨eA,files,names,cw,turns,calls+1,false,stop,fail⟩=⟨eA,files,names,cw,turns,calls+1,true,stop-1,fail⟩:=by
       unfold oJ;rw[if_neg hs];simp
       omega
      obtain⟨H4,mL⟩:=H2.Co ⟨eA,files,names,cw,turns,calls+1,true,stop-1,fail⟩ 6 (.bool true) rfl rfl rfl rfl rfl;have ww:=aoU hcd;have Cp:=iR.trans (eN.trans mL);have gw:=aoU hs1;clear hcd hs hs1;have y6:((w2.setCell ⟨h.g,7,none⟩ (.int .i64 ((stop:Int)-1))).setCell ⟨h.g,6,none⟩ (.bool true)).cell? ⟨h.g,8,none⟩=some (.int .i64 fail):=aoW H4.hd 8;have dY:=ay H4.hd 8;by_cases hf:fail=0
      .have cm:¬(0:Int)<(fail:Int):=by omega
       have lA:iI ⟨eA,files,names,cw,turns,calls,false,stop,fail⟩=(⟨eA,files,names,cw,turns,calls+1,true,stop-1,fail⟩,0):=by
        unfold iI;rw[if_neg (by simp),if_pos hf,ww.out]
       have qf:=aoU lA;clear lA hf;go_wp2_with fail;go_ret;rw[uU.out,qf.out];exact⟨rfl,H4,Cp⟩
      .have cm:(0:Int)<(fail:Int):=by omega
       obtain⟨H3,ik⟩:=(H4).Co ⟨eA,files,names,cw,turns,calls+1,true,stop-1,fail-1⟩ 8 (.int .i64 ((fail:Int)-1)) (by simp[iH];omega) rfl rfl rfl rfl;have VX:(((w2.setCell ⟨h.g,7,none⟩ (.int .i64 ((stop:Int)-1))).setCell ⟨h.g,6,none⟩ (.bool true)).setCell ⟨h.g,8,none⟩ (.int .i64 ((fail:Int)-1))).cell? ⟨h.g,8,none⟩=some (.int .i64 ((fail:Int)-1)):=by
        have h9:=aoW H3.hd 8;rw[h9];simp[iH]
        omega
       by_cases jG:fail=1
       .have uW:((fail:Int)-1==0)=true:=by rw[beq_iff_eq];omega
        have lA:iI ⟨eA,files,names,cw,turns,calls,false,stop,fail⟩=(⟨eA,files,names,cw,turns,calls+1,true,stop-1,fail-1⟩,15):=by
         unfold iI;rw[if_neg (by simp),if_neg hf,if_pos jG,ww.out,jG]
        have qf:=aoU lA;clear lA hf jG;go_wp2_with fail;go_ret;rw[uU.out,qf.out];exact⟨rfl,H3,(Cp).trans ik⟩
       .have uW:((fail:Int)-1==0)=false:=by rw[beq_eq_false_iff_ne];omega
        have lA:iI ⟨eA,files,names,cw,turns,calls,false,stop,fail⟩=(⟨eA,files,names,cw,turns,calls+1,true,stop-1,fail-1⟩,0):=by
         unfold iI;rw[if_neg (by simp),if_neg hf,if_neg jG,ww.out]
        have qf:=aoU lA;clear lA hf jG;go_wp2_with fail;go_ret;rw[uU.out,qf.out];exact⟨rfl,H3,(Cp).trans ik⟩
     .have wx:((stop:Int)-1==0)=false:=by rw[beq_eq_false_iff_ne];omega
      have hcd:oJ ⟨eA,files,names,cw,turns,calls+1,false,stop,fail⟩=⟨eA,files,names,cw,turns,calls+1,false,stop-1,fail⟩:=by
       unfold oJ;rw[if_neg hs];simp
       omega
      obtain⟨H4,mL⟩:=H2.Co ⟨eA,files,names,cw,turns,calls+1,false,stop-1,fail⟩ 6 (.bool false) rfl rfl rfl rfl rfl;have ww:=aoU hcd;have Cp:=iR.trans (eN.trans mL);have gw:=aoU hs1;clear hcd hs hs1;have y6:((w2.setCell ⟨h.g,7,none⟩ (.int .i64 ((stop:Int)-1))).setCell ⟨h.g,6,none⟩ (.bool false)).cell? ⟨h.g,8,none⟩=some (.int .i64 fail):=aoW H4.hd 8;have dY:=ay H4.hd 8;by_cases hf:fail=0
      .have cm:¬(0:Int)<(fail:Int):=by omega
       have lA:iI ⟨eA,files,names,cw,turns,calls,false,stop,fail⟩=(⟨eA,files,names,cw,turns,calls+1,false,stop-1,fail⟩,0):=by
        unfold iI;rw[if_neg (by simp),if_pos hf,ww.out]
       have qf:=aoU lA;clear lA hf;go_wp2_with fail;go_ret;rw[uU.out,qf.out];exact⟨rfl,H4,Cp⟩
      .have cm:(0:Int)<(fail:Int):=by omega
       obtain⟨H3,ik⟩:=(H4).Co ⟨eA,files,names,cw,turns,calls+1,false,stop-1,fail-1⟩ 8 (.int .i64 ((fail:Int)-1)) (by simp[iH];omega) rfl rfl rfl rfl;have VX:(((w2.setCell ⟨h.g,7,none⟩ (.int .i64 ((stop:Int)-1))).setCell ⟨h.g,6,none⟩ (.bool false)).setCell ⟨h.g,8,none⟩ (.int .i64 ((fail:Int)-1))).cell? ⟨h.g,8,none⟩=some (.int .i64 ((fail:Int)-1)):=by
        have h9:=aoW H3.hd 8;rw[h9];simp[iH]
        omega
       by_cases jG:fail=1
       .have uW:((fail:Int)-1==0)=true:=by rw[beq_iff_eq];omega
        have lA:iI ⟨eA,files,names,cw,turns,calls,false,stop,fail⟩=(⟨eA,files,names,cw,turns,calls+1,false,stop-1,fail-1⟩,15):=by
         unfold iI;rw[if_neg (by simp),if_neg hf,if_pos jG,ww.out,jG]
        have qf:=aoU lA;clear lA hf jG;go_wp2_with fail;go_ret;rw[uU.out,qf.out];exact⟨rfl,H3,(Cp).trans ik⟩
       .have uW:((fail:Int)-1==0)=false:=by rw[beq_eq_false_iff_ne];omega
        have lA:iI ⟨eA,files,names,cw,turns,calls,false,stop,fail⟩=(⟨eA,files,names,cw,turns,calls+1,false,stop-1,fail-1⟩,0):=by
         unfold iI;rw[if_neg (by simp),if_neg hf,if_neg jG,ww.out]
        have qf:=aoU lA;clear lA hf jG;go_wp2_with fail;go_ret;rw[uU.out,qf.out];exact⟨rfl,H3,(Cp).trans ik⟩
theorem Pz{D:ed}{s:List UInt8}{i:Nat}(h:∀z,D.atKey (cC s) z=fp i):nF D s=i:=by
 unfold nF;rw[h (fp 0)];rfl
def kI(d:aV)(s:List UInt8):Option Nat:=if Maps.has d.names (cC s)=true then some (nF d.names s) else none
theorem pB:Keyed prog 9:=string_keyed underlying9
theorem G'(w:World):(zeroValue 3).run prog w= .ok (.int .i64 0) w:=by kernel_rfl
theorem Ey(s:List UInt8)(h:s.length<=9223372036854775807):keyOf prog 9 (.string (tx s))=some (cC s):=by
 have h2:=Go.WideMaps.keyOf_string_mk (P:=prog) underlying9 (s:=tx s) (by rw[Ak];simpa only[maxLen] using h);rw[Aj] at h2;exact h2
theorem PA{B:Nat}{h:cQ}{d:aV}{w:World}(H:bD B h d w){i:Nat}(hi:i<d.files.length):∃b f x,h.fa=some ⟨b,0,none⟩/\h.aM[i]?=some f/\d.files[i]?=some x/\w.cell? ⟨b,i,none⟩=some (.pointer (some ⟨f.g,0,none⟩))/\Cn B f x w:=by
 have hl:=H.ly;have hf:h.aM[i]?=some h.aM[i]:=dh (by omega);have hx:d.files[i]?=some d.files[i]:=dh hi;obtain⟨g,hg,_,_⟩:=El H.files (by omega);obtain⟨b,o,e,hb,hc⟩:=(Rd.own H.files).2 (by omega);rw[hg] at e;injection e with e;injection e with e1 e2;subst e1;subst e2;have kJ:=hc i (.pointer (some ⟨h.aM[i].g,0,none⟩)) (by simp[tY,hf]);rw[dV] at kJ;exact⟨g,h.aM[i],d.files[i],hg,hf,hx,kJ,H.each i _ _ hf hx⟩
theorem Cq{B:Nat}{h:cQ}{d:aV}{w:World}(H:bD B h d w)(hok:dx d)(s:List UInt8)(hs:s.length<=9223372036854775807):
 Calls prog 216 #[.pointer (some ⟨h.g,0,none⟩),.string (tx s)] w λe w'=>w=w'/\((kI d s=none/\e= .returned (.pointer none))\/
  (∃i f x,kI d s=some i/\h.aM[i]?=some f/\d.files[i]?=some x/\e= .returned (.pointer (some ⟨f.g,0,none⟩)))):=by
 have c2:w.cell? ⟨h.g,2,none⟩=some (.map (some h.nb)):=aoW H.hd 2;have hkey:=Ey s hs;cases hh:Maps.has d.names (cC s) with
 |false=>
  have cm:kI d s=none:=by unfold kI;rw[hh];rfl
  have dz:=aoU cm;have fV:=aoU hkey;have dr:=aoU hh;clear cm hkey hh;go_enter func216,ntmps216
  go_wp2_with (at_lookup;refine wpList_lookup_own_ok_int _ rfl _ _ 87 rfl 9 3 .i64 pB underlying87 underlying3 (G' _) h.nb _ d.names rfl H.names _ _ rfl fV.out ?_;intro c hat Ao;rw[dr.out])
  go_ret;exact⟨rfl,.inl ⟨dz.out,rfl⟩⟩
 |true=>
  obtain⟨i,hi,rM⟩:=hok.nm.2 _ hh;have cm:kI d s=some i:=by unfold kI;rw[hh,if_pos rfl,Pz rM]
  obtain⟨b,f,x,Ap,hf,hx,hc,hF⟩:=PA H hi;have c1:w.cell? ⟨h.g,1,none⟩=some (.slice (some ⟨b,0,none⟩) d.files.length h.fq):=by have:=aoW H.hd 1;rw[<- Ap];exact this
  have i1:(i:Int)<(d.files.length:Int):=by omega
  have dz:=aoU cm;have fV:=aoU hkey;have dr:=aoU hh;have iw:=aoU rM;have yS:=aoU hf;have ew:=aoU hx;clear cm hkey hh rM hf hx Ap;go_enter func216,ntmps216
  go_wp2_with (at_lookup;refine wpList_lookup_own_ok_int _ rfl _ _ 87 rfl 9 3 .i64 pB underlying87 underlying3 (G' _) h.nb _ d.names rfl H.names _ _ rfl fV.out ?_;intro c hat Ao;rw[dr.out];have jS:c=(i:Int):=(by have h9:=iw.out (.lit (.int .i64 0));rw[hat] at h9;unfold fp at h9;injection h9 with h9;injection h9);rw[jS];clear jS hat Ao)
  go_ret;exact⟨rfl,.inr ⟨i,f,x,dz.out,yS.out,ew.out,rfl⟩⟩
def kd(w:World)(k:Nat):Option (Option TypeId):=(w.heap[k]?).map λo=>match o with | .cells _ t _=>some t|_=>none
theorem ka{w:World}{k:Nat}{cs:Array Value}{t:TypeId}{fz:Nat×Nat}(h:w.heap[k]?=some (.cells cs t fz)):kd w k=some (some t):=by unfold kd;rw[h];rfl
theorem jT{w:World}{base n c:Nat}{e:TypeId}{sz:Nat}{A:Option Addr}{xs:List Value}(h:w.ownsRow base e sz (.slice A n c) n xs){k:Nat}(hk:bW A k):kd w k=some (some e):=by
 obtain⟨a,rfl,rfl⟩:=hk;rcases h.2 with⟨hv,_⟩|⟨g,cap,cur,hv,hg,hh,r⟩
 .cases hv
 .injection hv with hA;injection hA with hA;subst hA;exact ka hh
theorem qY{A:Option Addr}{n c k:Nat}(h:V.ob (.slice A n c) k):bW A k:=by
 cases A with
 |none=>exact h.elim
 |some a=>exact⟨a,rfl,h⟩
theorem uY{A A':Option Addr}{n n' c c' g:Nat}(hat:(Value.slice A' n' c').ownBlock=(Value.slice A n c).ownBlock\/(Value.slice A' n' c').ownBlock=some g):∀k,bW A' k->bW A k\/g<=k:=by
 rintro k⟨a,rfl,rfl⟩;rcases hat with h|h
 .cases A with
  |none=>simp[Value.ownBlock] at h
  |some z=>simp[Value.ownBlock] at h;exact .inl ⟨z,rfl,h.symm⟩
 .simp[Value.ownBlock] at h
  exact .inr (Nat.le_of_eq h.symm)
theorem qZ{w w':World}{base n c:Nat}{e:TypeId}{sz:Nat}{A:Option Addr}{xs:List Value}(h:w.ownsRow base e sz (.slice A n c) n xs)(hg:w.grownBy w' (Value.slice A n c).ownBlock):V.af (λk=>bW A k) w w':=
 VM h hg (λ_ hk=>qY hk)
theorem Hh{w w':World}{b:Nat}(hg:w.grownBy w' (some b)):V.af (λk=>k=b) w w':=
 ⟨hg.os,hg.tape,hg.output,hg.size,λk hk hx=>hg.block k hk (λe=>hx (Option.some.inj e))⟩
section
variable{B:Nat}{h:cQ}{d:aV}{w w':World}{X:Nat->Prop}
theorem As{b n:Nat}{D:ed}(h:w.ownsMap prog 9 (plainElem prog 3) b n D):kd w b=some none:=by
 obtain⟨es,clock,hb,_⟩:=h;unfold kd;rw[hb];rfl
theorem bD.Hi(H:bD B h d w)(hK:V.af X w w')(hx:∀k,X k->kd w k≠some (some 100)/\kd w k≠some (some 103)/\kd w k≠some (some 5)):
 w'.ownsRow B 100 1 (.slice h.fa d.files.length h.fq) d.files.length (tY h.aM)/\∀(i:Nat)(f:sN)(x:iG),h.aM[i]?=some f->d.files[i]?=some x->Cn B f x w':=
 ⟨px H.files hK (λk hk hX=>(hx k hX).1 (jT H.files hk)),λi f x hf hx2=>by
  have hF:=H.each i f x hf hx2;exact hF.kt hK (λhX=>(hx _ hX).2.1 (ka hF.blk)) (λk hk hX=>(hx k hX).2.2 (jT hF.own hk))⟩
theorem bD.Ct(H:bD B h d w)(hK:V.af X w w')(hx:∀k,X k->kd w k≠some (some 91)):w'.heap[h.g]?=some (.cells (iH d h) 91 (0,0)):=
 (hK.block _ (aB H.hd) (λhX=>hx _ hX (ka H.hd))).trans H.hd
theorem bD.Lz(H:bD B h d w)(hK:V.af X w w')(hx:∀k,X k->kd w k≠some none):w'.ownsMap prog 9 (plainElem prog 3) h.nb (Maps.size d.names) d.names/\w'.ownsMap prog 9 (plainElem prog 3) h.lb (Maps.size d.cw) d.cw:=
 ⟨uS H.names hK (λhX=>hx _ hX (As H.names)),uS H.cw hK (λhX=>hx _ hX (As H.cw))⟩
theorem bD.Hj(H:bD B h d w)(hK:V.af X w w')(hx:∀k,X k->kd w k≠some (some 105)):w'.ownsRow B 105 4 (.slice h.ta d.turns.length h.i6) d.turns.length (j7 d.turns):=
 px H.turns hK (λk hk hX=>hx k hX (jT H.turns hk))
theorem PH(hK:V.af X w w')(g i:Nat)(v:Value):V.af (λk=>k=g\/X k) w (w'.setCell ⟨g,i,none⟩ v):=by
 have h2:V.af (λk=>k=g) w' (w'.setCell ⟨g,i,none⟩ v):=aoZ _ _ _ _ _ (V.af.refl _ _);exact af.sO (af.weak hK (λk hk=> .inr hk)) (af.weak h2 (λk hk=> .inl hk))
theorem bD.PI(H:bD B h d w){n:Nat}{D':ed}(hK:V.af (λk=>k=h.nb) w w')(hm:w'.ownsMap prog 9 (plainElem prog 3) h.nb n D'):bD B h { d with names:=D' } w'/\dW h w h w':=by
 have hx:∀k,k=h.nb->kd w k=some none:=λk hk=>by subst hk;exact As H.names
 have hf:=H.Hi hK (λk hk=>by rw[hx k hk];exact⟨by simp,by simp,by simp⟩);exact⟨⟨H.Ct hK (λk hk=>by rw[hx k hk];simp),H.base,hf.1,H.ly,hf.2,H.apart,GX hm,uS H.cw hK (λe=>H.nl e.symm),H.nl,H.tZ,H.Hj hK (λk hk=>by rw[hx k hk];simp)⟩,
  rfl,af.weak hK (λk hk=> .inr (.inl hk)),λk hk=> .inl hk⟩
theorem bD.N3(H:bD B h d w){n:Nat}{D':ed}(hK:V.af (λk=>k=h.lb) w w')(hm:w'.ownsMap prog 9 (plainElem prog 3) h.lb n D'):bD B h { d with cw:=D' } w'/\dW h w h w':=by
 have hx:∀k,k=h.lb->kd w k=some none:=λk hk=>by subst hk;exact As H.cw
 have hf:=H.Hi hK (λk hk=>by rw[hx k hk];exact⟨by simp,by simp,by simp⟩);exact⟨⟨H.Ct hK (λk hk=>by rw[hx k hk];simp),H.base,hf.1,H.ly,hf.2,H.apart,uS H.names hK (λe=>H.nl e),GX hm,H.nl,H.tZ,H.Hj hK (λk hk=>by rw[hx k hk];simp)⟩,
  rfl,af.weak hK (λk hk=> .inr (.inr (.inl hk))),λk hk=> .inl hk⟩
theorem bD.LA(H:bD B h d w){re:Option Addr}{sP m0:Nat}(l':List eo)(ex:w'.heap[h.g]?=some (.cells (iH { d with turns:=l' } { h with ta:=re,i6:=sP }) 91 (0,0)))(ho:w'.ownsRow B 105 4 (.slice re l'.length sP) l'.length (j7 l'))(fI:V.af (λk=>k=h.g\/bW h.ta k) w w')(hm0:m0<=w.heap.size)(hat:∀k,bW re k->bW h.ta k\/m0<=k):
 bD B { h with ta:=re,i6:=sP } { d with turns:=l' } w'/\V.af (aJ h) w w'/\∀k,aJ { h with ta:=re,i6:=sP } k->aJ h k\/m0<=k:=by
 have hx:∀k,(k=h.g\/bW h.ta k)->kd w k=some (some 91)\/kd w k=some (some 105):=by
  rintro k (rfl|hk);exact .inl (ka H.hd);exact .inr (jT H.turns hk)
 have hf:=H.Hi fI (λk hk=>by rcases hx k hk with e|e <;>rw[e] <;>exact⟨by decide,by decide,by decide⟩);have hm:=H.Lz fI (λk hk=>by rcases hx k hk with e|e <;>rw[e] <;>simp);refine⟨⟨ex,H.base,hf.1,H.ly,hf.2,H.apart,hm.1,hm.2,H.nl,H.tZ,ho⟩,af.weak fI (λk hk=>?_),λk hk=>?_⟩
 .rcases hk with rfl|hk
  .exact .inl rfl
  .exact .inr (.inr (.inr (.inr (.inl hk))))
 .rcases hk with hk|hk|hk|hk|hk|hk
  .exact .inl (.inl hk)
  .exact .inl (.inr (.inl hk))
  .exact .inl (.inr (.inr (.inl hk)))
  .exact .inl (.inr (.inr (.inr (.inl hk))))
  .rcases hat k hk with h9|h9
   .exact .inl (.inr (.inr (.inr (.inr (.inl h9)))))
   .exact .inr h9
  .exact .inl (.inr (.inr (.inr (.inr (.inr hk)))))
theorem bD.T5(H:bD B h d w){re:Option Addr}{sP:Nat}(l':List eo)(ho:w'.ownsRow B 105 4 (.slice re l'.length sP) l'.length (j7 l'))(hK:V.af (λk=>bW h.ta k) w w')(hat:∀k,bW re k->bW h.ta k\/w.heap.size<=k):
 bD B { h with ta:=re,i6:=sP } { d with turns:=l' } (w'.setCell ⟨h.g,4,none⟩ (.slice re l'.length sP))/\dW h w { h with ta:=re,i6:=sP } (w'.setCell ⟨h.g,4,none⟩ (.slice re l'.length sP)):=by
 have hg1:w'.heap[h.g]?=some (.cells (iH d h) 91 (0,0)):=H.Ct hK (λk hk=>by rw[jT H.turns hk];decide);have ex:=bM w' h.g 4 (.slice re l'.length sP) _ _ hg1;have ao8:V.af (λk=>k=h.g) w' (w'.setCell ⟨h.g,4,none⟩ (.slice re l'.length sP)):=aoZ _ _ _ _ _ (V.af.refl _ _);have h9:=H.LA l' ex (px ho ao8 (λk hk e=>by
  have h1:=jT ho hk;rw[e,ka hg1] at h1;exact absurd h1 (by decide))) (PH hK h.g 4 (.slice re l'.length sP)) (aZ _) hat
 exact⟨h9.1,rfl,h9.2.1,h9.2.2⟩
theorem bD.bw(H:bD B h d w){uZ:Option Addr}{nJ g:Nat}(hg:w.heap[g]?=some (.cells #[.slice none 0 0,.int .i64 0] 103 (0,0)))(nE:¬aJ h g)(hgB:B<=g){m0:Nat}(hm0:m0<=g)(amt:m0<=w.heap.size)(ho:w'.ownsRow B 100 1 (.slice uZ (d.files.length+1) nJ) (d.files.length+1) (tY h.aM++[.pointer (some ⟨g,0,none⟩)]))(hK:V.af (λk=>bW h.fa k) w w')(hat:∀k,bW uZ k->bW h.fa k\/m0<=k):
 bD B { h with fa:=uZ,fq:=nJ,aM:=h.aM++[⟨g,none,0⟩] } { d with files:=d.files++[⟨[],0⟩] } (w'.setCell ⟨h.g,1,none⟩ (.slice uZ (d.files.length+1) nJ))/\
  V.af (aJ h) w (w'.setCell ⟨h.g,1,none⟩ (.slice uZ (d.files.length+1) nJ))/\∀k,aJ { h with fa:=uZ,fq:=nJ,aM:=h.aM++[⟨g,none,0⟩] } k->aJ h k\/m0<=k:=by
 have hx:∀k,(k=h.g\/bW h.fa k)->kd w k=some (some 91)\/kd w k=some (some 100):=by
  rintro k (rfl|hk);exact .inl (ka H.hd);exact .inr (jT H.files hk)
 have hg1:w'.heap[h.g]?=some (.cells (iH d h) 91 (0,0)):=H.Ct hK (λk hk=>by rw[jT H.files hk];decide);have ex:=bM w' h.g 1 (.slice uZ (d.files.length+1) nJ) _ _ hg1;have fI:=PH hK h.g 1 (.slice uZ (d.files.length+1) nJ);have hm:=H.Lz fI (λk hk=>by rcases hx k hk with e|e <;>rw[e] <;>simp);have ht:=H.Hj fI (λk hk=>by rcases hx k hk with e|e <;>rw[e] <;>decide);have ao8:V.af (λk=>k=h.g) w' (w'.setCell ⟨h.g,1,none⟩ (.slice uZ (d.files.length+1) nJ)):=aoZ _ _ _ _ _ (V.af.refl _ _)
 have LB:∀(i:Nat)(f:sN)(x:iG),h.aM[i]?=some f->d.files[i]?=some x->Cn B f x (w'.setCell ⟨h.g,1,none⟩ (.slice uZ (d.files.length+1) nJ)):=λi f x hf hx2=>by
  have hF:=H.each i f x hf hx2;refine hF.kt fI (λhX=>?_) (λk hk hX=>?_)
  .have h1:=ka hF.blk;rcases hx _ hX with e|e <;>rw[e] at h1 <;>exact absurd h1 (by decide)
  .have h1:=jT hF.own hk;rcases hx _ hX with e|e <;>rw[e] at h1 <;>exact absurd h1 (by decide)
 have hfg:(w'.setCell ⟨h.g,1,none⟩ (.slice uZ (d.files.length+1) nJ)).heap[g]?=some (.cells #[.slice none 0 0,.int .i64 0] 103 (0,0)):=by
  refine(fI.block g (aB hg) (λhX=>?_)).trans hg;rcases hX with e|e
  .exact nE (.inl e)
  .exact nE (.inr (.inr (.inr (.inl e))))
 have hfl:=H.ly;refine⟨⟨?_,H.base,?_,by simp[hfl],λi f x hf hx2=>?_,λi j f f' hij hf hf'=>?_,hm.1,hm.2,H.nl,H.tZ,ht⟩,af.weak fI (λk hk=>?_),λk hk=>?_⟩
 .rw[ex];simp[iH]
 .have hp:tY (h.aM++[⟨g,none,0⟩])=tY h.aM++[.pointer (some ⟨g,0,none⟩)]:=by simp[tY]
  show World.ownsRow _ B _ 1 (.slice uZ (d.files++[(⟨[],0⟩:iG)]).length nJ) (d.files++[(⟨[],0⟩:iG)]).length (tY (h.aM++[(⟨g,none,0⟩:sN)]));rw[dG,hp];refine px ho ao8 (λk hk e=>?_);have h1:=jT ho hk;rw[e,ka hg1] at h1;exact absurd h1 (by decide)
 .by_cases hi:i<h.aM.length
  .rw[List.getElem?_append_left hi] at hf;rw[List.getElem?_append_left (by omega)] at hx2;exact LB i f x hf hx2
  .have hi2:i=h.aM.length:=by
    have:=(gM hf);simp at this;omega
   subst hi2;rw[List.getElem?_append_right (aZ _),Nat.sub_self] at hf;rw[List.getElem?_append_right (by omega),hfl,Nat.sub_self] at hx2;simp at hf hx2;subst hf hx2;exact⟨hfg,fC _ _ _ _,hgB⟩
 .have hin:∀(j:Nat)(f:sN),(h.aM++[⟨g,none,0⟩])[j]?=some f->(j<h.aM.length/\h.aM[j]?=some f)\/(j=h.aM.length/\f=⟨g,none,0⟩):=λj f hf=>by
   by_cases hj:j<h.aM.length
   .rw[List.getElem?_append_left hj] at hf;exact .inl ⟨hj,hf⟩
   .have h9:=(gM hf);simp at h9;have hj2:j=h.aM.length:=by omega
    subst hj2;rw[List.getElem?_append_right (aZ _),Nat.sub_self] at hf;simp at hf;exact .inr ⟨rfl,hf.symm⟩
  rcases hin i f hf with⟨h1,h2⟩|⟨h1,rfl⟩
  .rcases hin j f' hf' with⟨h3,h4⟩|⟨h3,rfl⟩
   .exact H.apart i j f f' hij h2 h4
   .exact⟨λe=>nE (.inr (.inr (.inr (.inr (.inr ⟨f,lW h2,.inl e.symm⟩))))),λk _ hk=>by obtain⟨a,ha,_⟩:=hk;cases ha⟩
  .rcases hin j f' hf' with⟨h3,h4⟩|⟨h3,rfl⟩
   .exact⟨λe=>nE (.inr (.inr (.inr (.inr (.inr ⟨f',lW h4,.inl e⟩))))),λk hk=>by obtain⟨a,ha,_⟩:=hk;cases ha⟩
   .omega
 .rcases hk with rfl|hk
  .exact .inl rfl
  .exact .inr (.inr (.inr (.inl hk)))
 .rcases hk with hk|hk|hk|hk|hk|⟨f,hf,hk⟩
  .exact .inl (.inl hk)
  .exact .inl (.inr (.inl hk))
  .exact .inl (.inr (.inr (.inl hk)))
  .rcases hat k hk with h9|h9
   .exact .inl (.inr (.inr (.inr (.inl h9))))
   .exact .inr h9
  .exact .inl (.inr (.inr (.inr (.inr (.inl hk)))))
  .rcases List.mem_append.1 hf with hf|hf
   .exact .inl (.inr (.inr (.inr (.inr (.inr ⟨f,hf,hk⟩)))))
   .rw[fi] at hf;subst hf;rcases hk with rfl|hk
    .exact .inr hm0
    .obtain⟨a,ha,_⟩:=hk;cases ha
theorem bD.PJ(H:bD B h d w){i:Nat}{f:sN}{x x':iG}{A':Option Addr}{c':Nat}(hf:h.aM[i]?=some f)(hx:d.files[i]?=some x)(hb:w'.heap[f.g]?=some (.cells #[.slice A' x'.b.length c',.int .i64 x'.last] 103 (0,0)))(ho:fG w' B A' x'.b.length c' x'.b)(hK:V.af (λk=>k=f.g\/bW f.A k) w w')(hat:∀k,bW A' k->bW f.A k\/w.heap.size<=k):
 bD B { h with aM:=h.aM.set i ⟨f.g,A',c'⟩ } { d with files:=d.files.set i x' } w'/\dW h w { h with aM:=h.aM.set i ⟨f.g,A',c'⟩ } w':=by
 have hF:=H.each i f x hf hx;have wz:∀k,(k=f.g\/bW f.A k)->kd w k=some (some 103)\/kd w k=some (some 5):=by
  rintro k (rfl|hk);exact .inl (ka hF.blk);exact .inr (jT hF.own hk)
 have hil:i<h.aM.length:=(gM hf);have hfl:=H.ly;have hm:=H.Lz hK (λk hk=>by rcases wz k hk with e|e <;>rw[e] <;>simp);have ht:=H.Hj hK (λk hk=>by rcases wz k hk with e|e <;>rw[e] <;>decide);have hg1:=H.Ct hK (λk hk=>by rcases wz k hk with e|e <;>rw[e] <;>decide);have hfr:=px H.files hK (λk hk hX=>by
  have h1:=jT H.files hk;rcases wz k hX with e|e <;>rw[e] at h1 <;>exact absurd h1 (by decide))
 have hpf:tY (h.aM.set i ⟨f.g,A',c'⟩)=tY h.aM:=by
  unfold tY;rw[List.map_set];have h9:=(List.getElem?_eq_some_iff.1 hf).2;have e:(Value.pointer (some ⟨f.g,0,none⟩))=(h.aM.map λf=>Value.pointer (some ⟨f.g,0,none⟩))[i]'(by rw[iZ];exact hil):=by rw[List.getElem_map,h9]
  show List.set _ i (Value.pointer (some ⟨f.g,0,none⟩))=_
  conv=>lhs;rw[e]
  exact List.set_getElem_self _
 refine⟨⟨?_,H.base,?_,by simp[hfl],λj f2 x2 gV hx2=>?_,λj k f2 f3 hjk gV u9=>?_,hm.1,hm.2,H.nl,H.tZ,ht⟩,rfl,af.weak hK (λk hk=> .inr (.inr (.inr (.inr (.inr ⟨f,lW hf,hk⟩))))),λk hk=>?_⟩
 .rw[hg1];simp[iH]
 .show World.ownsRow _ B _ 1 (.slice h.fa (d.files.set i x').length h.fq) (d.files.set i x').length (tY (h.aM.set i ⟨f.g,A',c'⟩));rw[List.length_set,hpf];exact hfr
 .by_cases hji:i=j
  .subst hji;have gL:f2=⟨f.g,A',c'⟩:=by rw[nC hil] at gV;injection gV with gV;exact gV.symm
   have S0:x2=x':=by rw[nC (by omega)] at hx2;injection hx2 with hx2;exact hx2.symm
   subst gL S0;exact⟨hb,ho,hF.base⟩
  .rw[List.getElem?_set_ne hji] at gV hx2;have hap:=H.apart i j f f2 hji hf gV;have EB:=H.each j f2 x2 gV hx2;refine EB.kt hK (λhX=>?_) (λk hk hX=>?_)
   .rcases hX with e|e
    .exact hap.1 e.symm
    .have h1:=ka EB.blk;rw[jT hF.own e] at h1;exact absurd h1 (by decide)
   .rcases hX with e|e
    .subst e;have h1:=jT EB.own hk;rw[ka hF.blk] at h1;exact absurd h1 (by decide)
    .exact hap.2 k e hk
 .have hnew:∀(m:Nat)(f4:sN),m≠i->h.aM[m]?=some f4->∀y,bW A' y->¬bW f4.A y:=λm f4 va Cu y hy Cv=>by
   rcases hat y hy with h9|h9
   .exact(H.apart i m f f4 (λe=>va e.symm) hf Cu).2 y h9 Cv
   .have h8:=(oI (H.each m f4 (d.files[m]'(by have:=(gM Cu);omega)) Cu (dh (by have:=(gM Cu);omega))).own Cv).2;omega
  by_cases hji:i=j
  .subst hji;rw[nC hil] at gV;rw[List.getElem?_set_ne hjk] at u9;injection gV with gV;subst gV;exact⟨(H.apart i k f f3 hjk hf u9).1,λy hy Cw=>hnew k f3 (λe=>hjk e.symm) u9 y hy Cw⟩
  .rw[List.getElem?_set_ne hji] at gV;by_cases hki:i=k
   .subst hki;rw[nC hil] at u9;injection u9 with u9;subst u9;exact⟨(H.apart j i f2 f hjk gV hf).1,λy hy Cw=>hnew j f2 hjk gV y Cw hy⟩
   .rw[List.getElem?_set_ne hki] at u9;exact H.apart j k f2 f3 hjk gV u9
 .rcases hk with hk|hk|hk|hk|hk|⟨f2,gV,hk⟩
  .exact .inl (.inl hk)
  .exact .inl (.inr (.inl hk))
  .exact .inl (.inr (.inr (.inl hk)))
  .exact .inl (.inr (.inr (.inr (.inl hk))))
  .exact .inl (.inr (.inr (.inr (.inr (.inl hk)))))
  .rcases List.mem_or_eq_of_mem_set gV with gV|rfl
   .exact .inl (.inr (.inr (.inr (.inr (.inr ⟨f2,gV,hk⟩)))))
   .rcases hk with rfl|hk
    .exact .inl (.inr (.inr (.inr (.inr (.inr ⟨f,lW hf,.inl rfl⟩)))))
    .rcases hat k hk with h9|h9
     .exact .inl (.inr (.inr (.inr (.inr (.inr ⟨f,lW hf,.inr h9⟩)))))
     .exact .inr h9
end
def mZ(d:aV)(s:List UInt8):aV×Nat:=
 if (ao1 [s] d).2≠0 then((ao1 [s] d).1,(ao1 [s] d).2)
 else if Maps.has d.names (cC s)=true then((ao1 [s] d).1,12)
 else if 64<=Maps.size d.names then((ao1 [s] d).1,65)
 else({ (ao1 [s] d).1 with names:=d.names.put (cC s) (fp d.files.length),turns:=d.turns++[⟨1,d.files.length,s,[]⟩],files:=d.files++[⟨[],0⟩] },0)
theorem mw.more{D:ed}{n m:Nat}(h:mw D n)(hnm:n<=m):mw D m:=⟨h.1,λkl hk=>by
 obtain⟨i,hi,r⟩:=h.2 kl hk;exact⟨i,by omega,r⟩⟩
theorem mw.put{D:ed}{n i:Nat}(h:mw D n)(hi:i<n)(s:List UInt8):mw (D.put (cC s) (fp i)) n:=by
 refine⟨h.1.put (show WideAt.IsKeyLit (cC s) from trivial) _,λkl hk=>?_⟩;by_cases bS:kl=cC s
 .subst bS;exact⟨i,hi,λz=>Maps.atKey_put_same h.1.isMap (show WideAt.IsKeyLit (cC s) from trivial) _ z⟩
 .rw[Maps.has_put_other bS] at hk;obtain⟨j,hj,hat⟩:=h.2 kl hk;exact⟨j,hj,λz=>by rw[Maps.atKey_put_other bS];exact hat z⟩
theorem mw.del{D:ed}{n:Nat}(h:mw D n)(s:List UInt8):mw (D.del (cC s)) n:=by
 refine⟨h.1.del _,λkl hk=>?_⟩;by_cases bS:kl=cC s
 .subst bS;rw[Maps.has_del_same] at hk;cases hk
 .rw[Maps.has_del_other bS] at hk;obtain⟨j,hj,hat⟩:=h.2 kl hk;exact⟨j,hj,λz=>by rw[Maps.atKey_del_other bS];exact hat z⟩
theorem LC{d:aV}(h:dx d)(s:List UInt8)(hnf:d.files.length<1000000)(hnt:d.turns.length<1000000):dx (mZ d s).1:=by
 have hc:=wv (L:= [s]) h;obtain⟨h1,h2,h3,h4,h5,h6,h7,h8⟩:=uT [s] d;unfold mZ;split;exact hc
 .split;exact hc
  .split;exact hc
   .refine⟨?_,?_,?_,?_,?_,?_,hc.sl,?_,hc.s,hc.f,hc.q⟩
    .exact(h.nm.more (by simp)).put (by simp) s
    .show mw (ao1 [s] d).1.cw _;rw[h3];exact h.la.more (by simp)
    .intro t ht;rcases List.mem_append.1 ht with ht|ht
     .rcases h.tn t ht with h9|h9
      .exact .inl (by simp;omega)
      .exact .inr h9
     .rw[fi] at ht;subst ht;exact .inl (by simp)
    .simp;omega
    .simp;omega
    .show Maps.size (d.names.put _ _)<=_;rw[Maps.size_put h.nm.1];have:=h.nG;split <;>omega
    .intro f hf;rcases List.mem_append.1 hf with hf|hf
     .exact h.fb f hf
     .rw[fi] at hf;subst hf;exact⟨by simp,by simp⟩
theorem PK:jr prog 89 105 4 48:=jr.mk' underlying89 (z:= .agg #[.int .i64 0,.int .i64 0,.string ByteArray.empty,.string ByteArray.empty]) (by kernel_rfl) rfl (by decide)
theorem DD:jr prog 88 100 1 8:=jr.mk' underlying88 (z:= .pointer none) (by kernel_rfl) rfl (by decide)
theorem V3{B:Nat}{h:cQ}{d:aV}{w:World}(H:bD B h d w)(hok:dx d)(cn:d.calls<=1000000000)(hnf:d.files.length<1000000)(hnt:d.turns.length<1000000)(s:List UInt8)(hs:s.length<=9223372036854775807):
 Calls prog 220 #[.pointer (some ⟨h.g,0,none⟩),.string (tx s)] w λe w'=>∃h',e= .returned (.int .i64 ((mZ d s).2:Int))/\bD B h' (mZ d s).1 w'/\dW h w h' w':=by
 have hb:Rd (w.alloc (.cells #[.string (tx s)] 9)) (w.alloc (.cells #[.string (tx s)] 9)).heap.size 1 (some ⟨w.heap.size,0,none⟩) 1 (qd [s]):=Rd.box w (.string (tx s)) 9;have H0:=H.up ((aoV.refl w).alloc (.cells #[.string (tx s)] 9));have D0:dW h w h (w.alloc (.cells #[.string (tx s)] 9)):=dW.up ((aoV.refl w).alloc (.cells #[.string (tx s)] 9));have kx:mZ d s=mZ d s:=rfl
 conv at kx=>rhs;unfold mZ
 have kY:=aoU kx;have jU:=wv (L:= [s]) hok;have hsame:=uT [s] d;have oM:=aoU hsame;clear kx hsame;go_enter func220,ntmps220
 go_wp2_with fail;refine(Ew H0 hok cn [s] (some ⟨w.heap.size,0,none⟩) 1 1 hb (λx hx=>by rw[fi] at hx;subst hx;exact hs) (by omega)).mono ?_;rintro e w1⟨rfl,H1,iR⟩;have kZ:=D0.trans iR;clear H0 D0 iR hb;generalize ao1 [s] d=r at *;obtain⟨d1,ma⟩:=r
 (try dsimp only at *)
 by_cases he:ma≠0
 .have sQ:((ma:Int) !=0)=true:=by rw[bne_iff_ne];omega
  have fv:=kY.out;rw[if_pos he] at fv;have eJ:=aoU fv;clear fv he;go_wp2_with fail;go_ret;rw[eJ.out];exact⟨h,rfl,H1,kZ⟩
 .have sQ:(
   (ma:Int) !=0)=false:=by rw[bne_eq_false_iff_eq];omega
  have fv:=kY.out;rw[if_neg he] at fv;have eJ:=aoU fv;clear fv he kY;obtain⟨e1,e2,bG,bT,dt,jV,kg,py⟩:=oM.out;go_wp2_with fail;refine(Cq H1 jU s hs).mono ?_;rintro e w2⟨rfl,cm⟩;rcases cm with⟨cm,rfl⟩|⟨i,f,x,cm,hf,hx,rfl⟩
  .have hh:Maps.has d.names (cC s)=false:=by
    unfold kI at cm;rw[e2] at cm;split at cm
    .cases cm
    .rename_i h9;simpa using h9
   have eB:=eJ.out;rw[if_neg (by rw[hh];decide)] at eB;have c2:w1.cell? ⟨h.g,2,none⟩=some (.map (some h.nb)):=aoW H1.hd 2;by_cases PL:64<=Maps.size d.names
   .rw[if_pos PL] at eB;have gP:=aoU eB;have C1:(64:Int)<=(Maps.size d1.names:Int):=by rw[e2];omega
    clear eB cm hh PL e1 e2 bG bT dt eJ;go_wp2_with (at_len;refine wpList_len_own _ rfl _ 87 rfl 9 3 underlying87 _ h.nb _ d1.names rfl H1.names ?_)
    go_ret;rw[gP.out];exact⟨h,rfl,H1,kZ⟩
   .rw[if_neg PL] at eB;have gP:=aoU eB;have C1:¬(64:Int)<=(Maps.size d1.names:Int):=by rw[e2];omega
    clear eB cm hh e1 e2 bG bT dt eJ;go_wp2_with (at_len;refine wpList_len_own _ rfl _ 87 rfl 9 3 underlying87 _ h.nb _ d1.names rfl H1.names ?_)
    have hkey:=Ey s hs;have fV:=aoU hkey;have H2:=H1.up (aoV.drew (aoV.refl w1));have eN:=kZ.trans (dW.up (h:=h) (aoV.drew (aoV.refl w1)));have jF:=jU.nG;have c1:w1.cell? ⟨h.g,1,none⟩=some (.slice h.fa d1.files.length h.fq):=aoW H1.hd 1;clear hkey;go_still_tail 10,(by kernel_rfl)
    change wpList _ _ _ _ _ w1.drew
    generalize w1.drew=w2 at *;clear c1 c2;go_upto_region 9 with (at_mapUpdate;refine wpList_mapUpdate_in _ rfl _ _ _ 87 rfl 9 3 pB underlying87 (plainElem prog 3) h.nb _ d1.names rfl H2.names (by unfold maxLen;omega) _ _ (cC s) rfl rfl fV.out _ [] (plainElem_int underlying3 (WalkArith.wf_i64 (by have:=jU.nf;omega))) ?_;intro w3 lB Cx)
    obtain⟨H3,ik⟩:=H2.PI (D':=d1.names.put (cC s) (fp d1.files.length)) (Hh Cx.grown) lB;have At:=eN.trans ik;clear H2 eN ik lB Cx;obtain⟨d3,iJ⟩:∃d3:aV,d3= { d1 with names:=d1.names.put (cC s) (fp d1.files.length) } :=⟨_,rfl⟩
    rw[<- iJ] at H3;have f1:d3.files=d1.files:=by rw[iJ]
    have f4:d3.turns.length<=1000000:=by rw[iJ];exact jU.Al
    have f5:d3.files.length<=1000000:=by rw[iJ];exact jU.nf
    have wC:=aoU iJ;clear iJ jU jF f1;have sR:∀g,(g=h.g\/bW h.ta g)->g<w3.heap.size:=by
     rintro g (rfl|hg);exact(H3.lt (.inl rfl)).2;exact(oI H3.turns hg).2
    have hS:∀W,V.af (λg=>g=h.g\/bW h.ta g) w3.drew W->V.af (λg=>g=h.g\/bW h.ta g) w3.drew W:=λW hK=>hK
    have vb:B<=w3.heap.size:=by have:=H3.lt (.inl rfl);omega
    apply V.aps 17 _ (λg=>g=h.g\/bW h.ta g) (λW=>W.heap[h.g]?=some (.cells (iH d3 h) 91 (0,0))/\W.ownsRow B 105 4 (.slice h.ta d3.turns.length h.i6) d3.turns.length (j7 d3.turns)) rfl (by kernel_rfl) (by kernel_rfl) sR ⟨H3.hd,H3.turns⟩
     (λv1 v2 hF hs=>⟨(hs.block h.g (aB hF.1) (.inr (.inl rfl))).trans hF.1,tX (Y:=λg=>(g<w3.heap.size/\¬(g=h.g\/bW h.ta g))\/(g=h.g\/bW h.ta g)) hF.2 ⟨hs.size,λg hg hy=>hs.block g hg (hy.elim id (λho=> .inr (.inr (qY ho))))⟩⟩) hS
    .intro aF aoX;iterate 4 (apply V.aj.ok;intros;go_simp;rfl;rfl;go_frame)
     apply V.aj.yO [17]
     .intro vs ag i7 hf;obtain⟨⟨hh,-⟩,-⟩:=hf;have c4:ag.cell? ⟨h.g,4,none⟩=some (.slice h.ta d3.turns.length h.i6):=aoW hh 4;clear hh i7;go_simp
      with_reducible rfl
     .rfl
     simp only[au,Nat.reduceAdd];iterate 3 (apply V.aj.ok;intros;go_simp;rfl;rfl;go_frame)
     apply V.aj.yO [17]
     .intro vs ag i7 hf;obtain⟨⟨hh,-⟩,-⟩:=hf;have c1:ag.cell? ⟨h.g,1,none⟩=some (.slice h.fa d3.files.length h.fq):=aoW hh 1;clear hh i7;go_simp
      with_reducible rfl
     .rfl
     simp only[au,Nat.reduceAdd];iterate 3 (apply V.aj.ok;intros;go_simp;rfl;rfl;go_frame)
     have hpc:∀y∈eo.cs ⟨1,d3.files.length,s,[]⟩,y.oneCell'=true:=λy hy=>by
      simp only[eo.cs,List.mem_cons,List.not_mem_nil,or_false] at hy;rcases hy with rfl|rfl|rfl|rfl <;>rfl
     apply V.aj.cG (λv W1=>W1.ownsRow w3.heap.size 105 4 v 1 (eo.cs ⟨1,d3.files.length,s,[]⟩)) V.ob [] []
     .exact λv W1 W2 h hs=>tX h hs
     .rfl
     .intro vs ag hK i7 _ K ah;go_simp;exact ah.out _ _ (wt ag _ _ hK.size rfl (by omega)) (V.af.co ((aoV.refl _).alloc _)) (by rintro g rfl;exact⟨by simp,.inl (aZ _)⟩)
     simp only[au,Nat.reduceAdd];apply V.aj.cG (λv W=>W.heap[h.g]?=some (.cells (iH d3 h) 91 (0,0))/\W.ownsRow B 105 4 v (d3.turns.length+1) (j7 d3.turns++eo.cs ⟨1,d3.files.length,s,[]⟩)/\∀k,V.ob v k->bW h.ta k\/w3.heap.size<=k) (λv g=>g=h.g\/V.ob v g) [17,12] [17]
     .rintro v v1 v2⟨f1,f2,f3⟩ hs;exact⟨(hs.block h.g (aB f1) (.inr (.inl rfl))).trans f1,tX (Y:=λg=>(g<w3.drew.heap.size/\¬(g=h.g\/bW h.ta g))\/(g=h.g\/V.ob v g)) f2 ⟨hs.size,λg hg hy=>hs.block g hg (hy.elim id (λho=> .inr (.inr ho)))⟩,f3⟩
     .rfl
     .intro vs ag hK i7 hf K ah;obtain⟨⟨hh,hrow⟩,h12,-⟩:=hf;have wD:ag.ownsRow w3.heap.size 105 4 (vs 12) 1 (eo.cs ⟨1,d3.files.length,s,[]⟩):=h12;obtain⟨xS,c12,Au⟩:=eL wD;rw[Au] at wD
      (try dsimp only at ah|-)
      rw[Au] at ah|-;refine uP _ _ _ PK rfl rfl rfl hrow (Rd.own wD) hpc (by omega) (by omega) (bQ vb hK.size) λv' ai ho' hg' m8=>?_
      have hKr:=qZ hrow hg';refine ah.out _ _ ⟨?_,ho',λk hk=>?_⟩ (af.weak hKr λy hy=>⟨17,fi.2 rfl,.inr hy⟩) (λy hy=>?_)
      .refine(hKr.block h.g (aB hh) (λhx=>?_)).trans hh;have h1:=jT hrow hx;rw[ka hh] at h1;exact absurd h1 (by decide)
      .obtain⟨A',c',rfl⟩:=eL ho';rcases uY m8 k (qY hk) with h9|h9
       .exact .inl h9
       .exact .inr (bQ hK.size h9)
      .rcases hy with rfl|hy
       .exact⟨cg (aB hh) hKr.size,.inr ⟨17,fi.2 rfl,.inl rfl⟩⟩
       .obtain⟨A',c',rfl⟩:=eL ho';refine⟨(oI ho' (qY hy)).2,?_⟩;rcases uY m8 y (qY hy) with h9|h9
        .exact .inr ⟨17,fi.2 rfl,.inr h9⟩
        .exact .inl h9
     simp only[au,Nat.reduceAdd];iterate 2 (apply V.aj.ok;intros;go_simp;rfl;rfl;go_frame)
     apply V.aj.wo (λvs W=>∃eC ix,vs 13= .slice eC (d3.turns.length+1) ix/\W.heap[h.g]?=some (.cells (iH { d3 with turns:=d3.turns++[⟨1,d3.files.length,s,[]⟩] } { h with ta:=eC,i6:=ix }) 91 (0,0))/\W.ownsRow B 105 4 (.slice eC (d3.turns.length+1) ix) (d3.turns.length+1) (j7 d3.turns++eo.cs ⟨1,d3.files.length,s,[]⟩)/\∀k,bW eC k->bW h.ta k\/w3.heap.size<=k) (λvs g=>g=h.g\/V.ob (vs 13) g) [13] [13] [13] (λvs vs' h=>by rw[h 13 (by simp)];exact⟨rfl,rfl⟩)
     .rintro vs v1 v2⟨eC,ix,f0,f1,f2,f3⟩ hs;exact⟨eC,ix,f0,(hs.block h.g (aB f1) (.inr (.inl rfl))).trans f1,tX (Y:=λg=>(g<w3.drew.heap.size/\¬(g=h.g\/bW h.ta g))\/(g=h.g\/V.ob (vs 13) g)) f2 ⟨hs.size,λg hg hy=>hs.block g hg (hy.elim id (λho=> .inr (.inr (by rw[f0];exact ho))))⟩,f3⟩
     .rfl
     .intro vs ag hK i7 hf K ah;obtain⟨yT,-⟩:=hf;obtain⟨hh,hrow,hat⟩:=yT;have sS:ag.ownsRow B 105 4 (vs 13) (d3.turns.length+1) (j7 d3.turns++eo.cs ⟨1,d3.files.length,s,[]⟩):=hrow;obtain⟨eC,ix,ky⟩:=eL sS;have t4:ag.cell? ⟨h.g,4,none⟩=some (.slice h.ta d3.turns.length h.i6):=aoW hh 4;have dP:=ay hh 4;have bC:=bM ag h.g 4 (.slice eC (d3.turns.length+1) ix) _ _ hh;have kK:V.af (λk=>k=h.g) ag (ag.setCell ⟨h.g,4,none⟩ (.slice eC (d3.turns.length+1) ix)):=aoZ _ _ _ _ _ (V.af.refl _ _);rw[ky] at sS
      have sT:∀k,bW eC k->bW h.ta k\/w3.heap.size<=k:=λk hk=>hat k (by
       show V.ob (vs 13) k;rw[ky];obtain⟨a,rfl,e⟩:=hk;exact e)
      have sU:=px sS kK (λk hk e=>by
       have h1:=jT sS hk;rw[e,ka hh] at h1;exact absurd h1 (by decide))
      (try dsimp only at ah|-)
      rw[ky] at ah|-;have cd:=aoU ky;have dr:=aoU hh;clear ky hat hrow hh;go_simp;refine ah.out undef _ ⟨eC,ix,?_,?_,sU,sT⟩ (af.weak kK λy hy=>⟨13,fi.2 rfl,.inl hy⟩) (λy hy=>?_)
      .rw[V.jQ _ _ (by decide)];exact cd.out
      .rw[bC];simp[iH]
      .have hy':y=h.g\/V.ob (vs 13) y:=by simpa only[V.jQ _ _ (show 13≠16 by decide)] using hy
       rcases hy' with rfl|hy'
       .exact⟨cg (aB dr.out) kK.size,.inr ⟨13,fi.2 rfl,.inl rfl⟩⟩
       .rw[cd.out] at hy';refine⟨(oI sU (qY hy')).2,.inr ⟨13,fi.2 rfl,.inr ?_⟩⟩;show V.ob (vs 13) y;rw[cd.out];exact hy'
     simp only[au,Nat.reduceAdd];apply V.aj.fin [16];intro vs ag hK i7 hf;obtain⟨Hk,-⟩:=hf;obtain⟨eC,ix,ky,hh,hrow,hat⟩:=Hk;refine aoX.out _ _ ?_;clear aoX i7
     (try dsimp only)
     rw[ky];have Aw:=H3.up (aoV.drew (aoV.refl w3));obtain⟨H4,lC,t7⟩:=Aw.LA (d3.turns++[⟨1,d3.files.length,s,[]⟩]) (m0:=w3.heap.size) hh (by rw[dG];unfold j7 at hrow|-;rw[List.flatMap_append];simpa using hrow) hK (aZ _) hat;have mL:dW h w { h with ta:=eC,i6:=ix } ag:=At.trans ⟨rfl,⟨lC.os,lC.tape,lC.output,lC.size,lC.block⟩,t7⟩;clear ky hh hrow hat hK lC t7 Aw H3 At sR hS vb hpc;have c1:ag.cell? ⟨h.g,1,none⟩=some (.slice h.fa d3.files.length h.fq):=aoW H4.hd 1
     have aQ:aoV ag (ag.alloc (.cells #[.slice none 0 0,.int .i64 0] 103)):=(aoV.refl ag).alloc _;have aX:aoV ag ((ag.alloc (.cells #[.slice none 0 0,.int .i64 0] 103)).alloc (.cells #[.pointer (some ⟨ag.heap.size,0,none⟩)] 100)):=aQ.alloc _;have H5:=H4.up aX;have Ax:World.ownsRow ((ag.alloc (.cells #[.slice none 0 0,.int .i64 0] 103)).alloc (.cells #[.pointer (some ⟨ag.heap.size,0,none⟩)] 100)) B 100 1 (.slice h.fa d3.files.length h.fq) d3.files.length (tY h.aM):=H5.files;have V4:=Rd.box (ag.alloc (.cells #[.slice none 0 0,.int .i64 0] 103)) (.pointer (some ⟨ag.heap.size,0,none⟩)) 100
     rw[show(ag.alloc (.cells #[.slice none 0 0,.int .i64 0] 103)).heap.size=ag.heap.size+1 from fF _ _] at V4;have C2:((ag.alloc (.cells #[.slice none 0 0,.int .i64 0] 103)).alloc (.cells #[.pointer (some ⟨ag.heap.size,0,none⟩)] 100)).heap[ag.heap.size]?=some (.cells #[.slice none 0 0,.int .i64 0] 103 (0,0)):=by
      rw[Below.heap_alloc _ _ _ (by simp)];exact bp ag _
     have nE:=λhk=>(H4.lt (k:=ag.heap.size) hk).2
     have vb:B<=ag.heap.size:=by have:=H4.lt (.inl rfl);omega
     have bR:B<=((ag.alloc (.cells #[.slice none 0 0,.int .i64 0] 103)).alloc (.cells #[.pointer (some ⟨ag.heap.size,0,none⟩)] 100)).heap.size:=by rw[fF,fF];omega
     have hsz:ag.heap.size<=((ag.alloc (.cells #[.slice none 0 0,.int .i64 0] 103)).alloc (.cells #[.pointer (some ⟨ag.heap.size,0,none⟩)] 100)).heap.size:=aX.size;have oR:∀y∈ [Value.pointer (some ⟨ag.heap.size,0,none⟩)],y.oneCell'=true:=λy hy=>by rw[fi] at hy;subst hy;rfl
     go_wp2_with (at_builtin;refine iF _ DD (news:= [.pointer (some ⟨ag.heap.size,0,none⟩)]) Ax V4 oR (by omega) (by omega) bR rfl rfl rfl rfl ?_;intro v3 cH lD fW t8;obtain⟨pC,sV,rfl⟩:=eL lD;have y1:cH.cell? ⟨h.g,1,none⟩=some (.slice h.fa d3.files.length h.fq):=aoW (H5.Ct (qZ Ax fW) (λk hk=>by rw[jT Ax hk];decide)) 1;have iS:=ay (H5.Ct (qZ Ax fW) (λk hk=>by rw[jT Ax hk];decide)) 1)
     go_ret;obtain⟨rO,Hl,Ay⟩:=H5.bw C2 (λhk=>Nat.lt_irrefl _ (nE hk)) vb (m0:=ag.heap.size) (aZ _) hsz lD (qZ Ax fW) (λk hk=>(uY t8 k hk).imp id (λh9=>bQ hsz h9));have cF:dW { h with ta:=eC,i6:=ix } ag { h with fa:=pC,fq:=sV,aM:=h.aM++[⟨ag.heap.size,none,0⟩],ta:=eC,i6:=ix } (cH.setCell ⟨h.g,1,none⟩ (.slice pC (d3.files.length+1) sV)):=⟨rfl,af.sO (V.af.co aX) Hl,Ay⟩
     have Hm:=mL.trans cF;rw[gP.out];obtain⟨e1,e2,bG,bT,-⟩:=oM.out;refine⟨rfl,{ h with fa:=pC,fq:=sV,aM:=h.aM++[⟨ag.heap.size,none,0⟩],ta:=eC,i6:=ix },?_,Hm⟩;have LD:=wC.out;subst LD
     (try dsimp only at rO)
     rw[e1,e2,bT] at rO
     (try dsimp only)
     rw[e1];exact rO
    .kernel_rfl
  .have hh:Maps.has d.names (cC s)=true:=by
    unfold kI at cm;rw[e2] at cm;split at cm;assumption
    .cases cm
   have eB:=eJ.out;rw[if_pos hh] at eB;have gP:=aoU eB;clear eB cm hh hf hx e1 e2 bG bT dt eJ;go_wp2_with fail;go_ret;rw[gP.out];exact⟨h,rfl,H1,kZ⟩
end
section
open Go.RowKit
theorem Rd.kt{w w':World}{B sz n:Nat}{A:Option Addr}{xs:List Value}{X:Nat->Prop}(h:Rd w B sz A n xs)(hB:B<=w.heap.size)(hne:∀a,A=some a->¬X a.block)(hK:V.af X w w'):Rd w' w'.heap.size sz A n xs:=by
 refine⟨h.1,λhn=>?_⟩;obtain⟨b,o,rfl,hb,hc⟩:=h.2 hn;refine⟨b,o,rfl,cg (cg hb hB) hK.size,λj u hu=>?_⟩;exact(mv (hK.block b (cg hb hB) (hne _ rfl))).trans (hc j u hu)
theorem Rd.sW{w w':World}{B sz n:Nat}{A:Option Addr}{xs:List Value}{X:Nat->Prop}(h:Rd w B sz A n xs)(hB:B<=w.heap.size)(hne:0<n->∀a,A=some a->¬X a.block)(hK:V.af X w w'):Rd w' w'.heap.size sz A n xs:=by
 refine⟨h.1,λhn=>?_⟩;exact(h.kt hB (hne hn) hK).2 hn
def wJ(i:aC):List UInt8:=byteOf i.s.toInt::byteOf i.k.toInt::(cU i.t.toNat++(cU i.v.toNat++cU (ve i.x.toInt)))
def oT(l:List aC):List UInt8:=cU l.length++l.flatMap wJ
def mP(l:List aC):Nat:=if 2000<l.length then 2 else if l.all okB then 0 else 1
def Ic(bs:List UInt8)(l:List aC):List UInt8:=if mP l=0 then bs++oT l else []
theorem Ww{bs:List UInt8}{l:List aC}(h:mP l≠0):Ic bs l= []:=by unfold Ic;rw[if_neg h]
theorem Wx{bs:List UInt8}{l:List aC}(h:mP l=0):Ic bs l=bs++oT l:=by unfold Ic;rw[if_pos h]
theorem Qe(i:Int64): -9223372036854775808<=i.toInt/\i.toInt<=9223372036854775807:=⟨by have:=i.le_toInt;simpa using this,by have:=i.toInt_lt;omega⟩
theorem Wy(i:aC):(wJ i).length<=32:=by
 have h1:=pH i.t.toNat_lt;have h2:=pH i.v.toNat_lt;have h3:=pH (Wu i.x.toInt (Qe i.x).1 (Qe i.x).2);simp only[wJ,iu,dG];omega
theorem aag(A:Option Addr)(n c:Nat)(bs:List UInt8)(Q:Option Addr)(m d:Nat)(l:List aC)(w:World)(hr:Rd w w.heap.size 1 A n (cu bs))(hq:Rd w w.heap.size 5 Q m (bl l))(hn:n<=1099511627000)(hm:m<=9223372036854775807):
 Calls prog 286 #[.slice A n c,.slice Q m d] w λe w'=>∃A' n' c',e= .returned (.tuple #[.slice A' n' c',.int .i64 (mP l:Int)])/\fG w' w.heap.size A' n' c' (Ic bs l)/\aoV w w':=by
 have ff:=aoU hr.gO;have eT:=aoU hq.og;have tj:∀w0,fG w0 w.heap.size none 0 0 []:=λw0=>fC _ _ _ _
 have mc:=aoU tj;clear tj;by_cases ud:2000<m
 .have hE:Hid (mP l=2):=by show _=_;unfold mP;rw[if_pos (by rw[<- eT.out];exact ud)]
  go_enter func286,ntmps286
  go_wp2_with fail;go_ret2
  rw[hE.out,Ww (by rw[hE.out];omega)];exact⟨none,0,0,rfl,mc.out _,aoV.refl _⟩
 cases hall:l.all okB
 .have hE:Hid (mP l=1):=by show _=_;unfold mP;rw[if_neg (by rw[<- eT.out];exact ud),hall];rfl
  have iw:=aoU hall;clear hall;go_enter func286,ntmps286
  go_wp2_with fail;refine(LV Q m d l w hq hm).mono ?_;rintro e w1⟨rfl,hu⟩;rw[iw.out];go_wp2_with fail;go_ret2
  rw[hE.out,Ww (by rw[hE.out];omega)];exact⟨none,0,0,rfl,mc.out _,hu⟩
 .have hE:Hid (mP l=0):=by show _=_;unfold mP;rw[if_neg (by rw[<- eT.out];exact ud),hall];rfl
  have iw:=aoU hall;clear hall;go_enter func286,ntmps286
  go_wp2_with fail;refine(LV Q m d l w hq hm).mono ?_;rintro e w1⟨rfl,hu1⟩;rw[iw.out];go_wp2_with fail;refine(za A n c bs m w1 (hr.up hu1) (by omega) (by omega)).mono ?_;rintro e w2⟨iA,n2,c2,rfl,qk,aq⟩;have fL:=hu1.trans aq;go_wp2_with fail;go_loopw[7,25] (λv i wr=>∃(k:Nat)(R:Option Addr)(rn rc:Nat),i= .int .i64 k/\v= .slice R rn rc/\k<=m/\rn<=32*k/\fG wr w2.heap.size R rn rc ((l.take k).flatMap wJ)/\aoV w2 wr) (λ_ i _=>m-(intOf i).toNat)
  case atStart=>exact⟨0,none,0,0,rfl,rfl,by omega,by omega,fC _ _ _ _,aoV.refl _⟩
  case round=>
   obtain⟨k,R,rn,rc,rfl,rfl,hk,jW,hown,hu⟩:=hrel;by_cases hlt:k<m
   .obtain⟨b,o,i,rfl,hb,hik,x0,x1,x2,x3,qm⟩:=(hq.stay (aZ _) (fL.trans hu)).wI hlt;have fS:=aoU hik;clear hik;have aah:=Qe i.x;obtain⟨aqc,amA⟩:=aah;go_wp2_with (at_builtin;refine iF _ qP (news:=cu [byteOf i.s.toInt,byteOf i.k.toInt]) (lu (lu hown _) _) (Rd.Lj _ _ _ _ (by simp) (by simp[cu,Ph])) (sI _) (by simp;omega) (by simp;omega) (by simp;have:=hu.size;omega) rfl rfl rfl rfl ?_;intro v3 w3 rk kM EM;obtain⟨vf,EN,rfl⟩:=eL rk)
    have hx3:=((Rd.item wr i 37).alloc (by simp) (.cells #[.int .u8 (i.s.toInt%256),.int .u8 (i.k.toInt%256)] 5)).Vj (by omega) kM (by simp;omega) (λe=>by have:=(hown.lt _ e.symm).2;omega);obtain⟨g0,g1,g2,g3,g4⟩:=LN hx3;have bV:aoV w2 w3:=(((hu.alloc _).alloc _).grown kM (λg hg=>(hown.lt g hg).1))
    clear hx3 g0 g1 x0 x1 x2 x3 qm;go_wp2_with fail;go_region_held3 (λW=>W.cell? ⟨wr.heap.size,2,none⟩=some (.int .u64 i.t.toNat)/\W.cell? ⟨wr.heap.size,3,none⟩=some (.int .u64 i.v.toNat)/\W.cell? ⟨wr.heap.size,4,none⟩=some (.int .i64 i.x.toInt)) (first|exact⟨g2,g3,g4⟩|go_keep)
     (first|(go_at_call 325;refine(apO _ _ (by omega) (by omega)).mono ?_;rintro e w'⟨rfl,rfl⟩))
    go_wp2_with fail;have CK:Rd (w3.drew.alloc (.cells #[.int .u64 i.t.toNat,.int .u64 i.v.toNat,.int .u64 (ve i.x.toInt:Int)] 26)) (w3.heap.size+1) 1 (some ⟨w3.heap.size,0,none⟩) 3 (Eo [i.t.toNat,i.v.toNat,ve i.x.toInt]):=by
     have:=Rd.made (sz:=1) (n:=3) w3.drew #[.int .u64 i.t.toNat,.int .u64 i.v.toNat,.int .u64 (ve i.x.toInt:Int)] 26 rfl;rw[fF] at this;exact this
    have Wz:∀j,j<3->([i.t.toNat,i.v.toNat,ve i.x.toInt].getD j 0:Int)<=18446744073709551615:=by
     intro j hj;have h1:=i.t.toNat_lt;have h2:=i.v.toNat_lt;have h3:=Wu i.x.toInt (by omega) (by omega)
     match j,hj with
     |0,_=>simp;omega
     |1,_=>simp;omega
     |2,_=>simp;omega
    have WA:wJ i= [byteOf i.s.toInt,byteOf i.k.toInt]++[i.t.toNat,i.v.toNat,ve i.x.toInt].flatMap cU:=by simp[wJ]
    have WB:rn+[byteOf i.s.toInt,byteOf i.k.toInt].length=rn+2:=rfl;rw[WB,<- yG] at rk;have WC:=aoU Wz;have zb:=aoU WA;clear Wz WA WB g2 g3 g4;obtain⟨ns,Qf⟩:∃ns,[i.t.toNat,i.v.toNat,ve i.x.toInt]=ns:=⟨_,rfl⟩
    have aai:ns.length=3:=by rw[<- Qf];rfl
    rw[Qf] at CK WC zb;have WD:vf≠some ⟨w3.heap.size,0,none⟩:=by
     intro e;subst e;have:=(rk.lt w3.heap.size rfl).2;omega
    clear Qf;go_loopw[7,47] (λv j ws=>∃(q:Nat)(S:Option Addr)(nG sc:Nat),j= .int .i64 q/\v= .slice S nG sc/\q<=3/\nG<=rn+2+10*q/\fG ws w2.heap.size S nG sc ((l.take k).flatMap wJ++[byteOf i.s.toInt,byteOf i.k.toInt]++(ns.take q).flatMap cU)/\Hid (S≠some ⟨w3.heap.size,0,none⟩)/\Rd ws (w3.heap.size+1) 1 (some ⟨w3.heap.size,0,none⟩) 3 (Eo ns)/\aoV w2 ws/\w3.heap.size<ws.heap.size) (λ_ j _=>3-(intOf j).toNat)
    case atStart=>exact⟨0,vf,rn+2,EN,rfl,rfl,by omega,by omega,by rw[List.take_zero,List.flatMap_nil,List.append_nil];exact lu rk _,WD,CK,(bV.drew).alloc _,by simp⟩
    case round=>
     obtain⟨q,S,nG,sc,rfl,rfl,zc,jF,EO,hne,hlt3,pG,hsz⟩:=hrel;clear CK rk WD bV kM EM;by_cases qV:q<3
     .obtain⟨kB,CL,dt,md,Id⟩:=hlt3.nat qV;injection dt with dt;injection dt with jV kg;subst jV;subst kg;rw[dV] at Id;have hv:=WC.out q qV;have htk:ns.take (q+1)=ns.take q++[ns.getD q 0]:=by
       rw[lU (by omega)];simp[List.getD,aai,qV]
      generalize ns.getD q 0=x at Id hv htk;have LW:=aoU htk;clear htk;have hxl:=pH (n:=x) (by omega);go_wp2_with fail;refine(za none 0 0 [] x _ Rd.empty (by omega) hv).mono ?_;rintro e ai⟨kC,n5,c5,rfl,rT,cI⟩;rw[gY] at rT;have AF:=rT.len;have amB:n5<=10:=by omega
      have LX:=aoU AF;clear AF hxl;have amC:nG<=64100:=by omega
      go_wp2_with (at_builtin;refine iF _ qP (EO.up cI) rT.rd (sI _) (by omega) (by omega) (by have:=pG.size;have:=cI.size;omega) rfl rfl rfl rfl ?_;intro v6 cH jw fW t8;obtain⟨xZ,Qg,rfl⟩:=eL jw)
      have Qh:w3.heap.size<ai.heap.size:=cg hsz cI.size;have hnb:∀g,some g=(Value.slice S nG sc).ownBlock->g<ai.heap.size/\g≠w3.heap.size:=by
       intro g hg;have h1:=((EO.up cI).lt g hg.symm).2;refine⟨h1,λe=>hne.out ?_⟩;subst e;obtain⟨g',hS,_⟩:∃g',S=some ⟨g',0,none⟩/\True:=by
        rcases EO.2 with⟨vg,_⟩|⟨g',_,_,vg,_⟩
        .injection vg with hS _ _;subst hS;simp[Value.ownBlock] at hg
        .injection vg with hS _ _;exact⟨g',hS,trivial⟩
       subst hS;simp[Value.ownBlock] at hg
       rw[hg]
      go_roundw
      case rel=>
       refine⟨q+1,xZ,nG+n5,Qg,by go_num,rfl,by omega,by omega,?_,?_,?_,(pG.trans cI).grown fW (λg hg=>((EO.up cI).lt g hg).1),cg Qh fW.size⟩
       .show World.ownsRow _ _ _ _ _ _ _;rw[LW.out,List.flatMap_append,<- jg,yG];simpa using jw
       .intro e;subst e;rcases t8 with h|h
        .exact(hnb w3.heap.size (by simpa[Value.ownBlock] using h)).2 rfl
        .simp[Value.ownBlock] at h;omega
       .exact(hlt3.stay hsz cI).Vj (by omega) fW Qh (λe=>(hnb _ e).2 rfl)
      case measure=>simp[intOf];omega
     .have aaj:q=3:=by omega
      subst aaj;go_wp2_with fail;go_roundw
      case rel=>
       refine⟨k+1,S,nG,sc,by go_num,rfl,by omega,by omega,?_,pG⟩;have bS:k<l.length:=by have:=eT.out;omega
       have yL:l.take (k+1)=l.take k++[i]:=by
        rw[lU bS];have:=fS.out;rw[dh bS] at this;injection this with this;rw[this]
       rw[show ns.take 3=ns from lV (by omega)] at EO;rw[yL,List.flatMap_append,List.flatMap_singleton,zb.out,<- jg];exact EO
      case measure=>simp[intOf];omega
   .have hkm:k=m:=by omega
    subst hkm;have hrow:(l.take k).flatMap wJ=l.flatMap wJ:=by rw[lV (by have:=eT.out;omega)]
    rw[hrow] at hown;have hn2:n2<=n+10:=by have h1:=qk.len;have h2:=pH (n:=k) (by omega);have h3:=ff.out;rw[dG] at h1;omega
    have WE:fG wr w.heap.size iA n2 c2 (bs++cU k):=jP (qk.up hu) hu1.size;clear hrow qk;go_wp2_with (at_builtin;refine iF _ qP WE hown.rd (sI _) (by omega) (by omega) (fL.trans hu).size rfl rfl rfl rfl ?_;intro v6 cH jw fW t8;obtain⟨xZ,Qg,rfl⟩:=eL jw)
    go_ret2
    rw[hE.out,Wx hE.out];refine⟨xZ,_,Qg,rfl,?_,(fL.trans hu).grown fW (λg hg=>(WE.lt g hg).1)⟩;show World.ownsRow _ _ _ _ _ _ _;rw[oT,<- eT.out,<- jg,yG];exact jw
def m'(l:List UInt8):Nat:=if l.length<4 then 4 else if iB (l.take (l.length-4))=l then 0 else 5
def wK(l:List UInt8):List UInt8:=if m' l=0 then l.take (l.length-4) else []
theorem L4(A:Option Addr)(n c:Nat)(l:List UInt8)(w:World)(hr:Rd w w.heap.size 1 A n (cu l))(hn:n<=1099511627776)(hc:n<=c):
 Calls prog 222 #[.slice A n c] w λe w'=>∃A' n' c',e= .returned (.tuple #[.slice A' n' c',.int .i64 (m' l:Int)])/\fG w' w.heap.size A' n' c' (wK l)/\aoV w w':=by
 have bU:=aoU hr.gO;have tj:∀w0,fG w0 w.heap.size none 0 0 []:=λw0=>fC _ _ _ _
 have mc:=aoU tj;clear tj;by_cases h4:n<4
 .have hE:m' l=4:=by unfold m';rw[if_pos (by rw[<- bU.out];exact h4)]
  have hL:wK l= []:=by unfold wK;rw[hE];rfl
  have ft:=aoU hE;have cO:=aoU hL;clear hE hL;go_enter func222,ntmps222
  go_wp2_with fail;go_ret2
  rw[ft.out,cO.out];exact⟨none,0,0,rfl,mc.out _,aoV.refl _⟩
 .have hk:n-4<=n:=by omega
  have CM:=hr.Pe hk;have hle:((n:Int)-4).toNat=n-4:=by omega
  have h0:(0:Int)<=(n:Int)-4:=by omega
  have h1:(n:Int)-4<=c:=by omega
  have h2:(4:Int)<=n:=by omega
  have hd:decide ((n:Int)-4<0)=false:=by simp;omega
  have uh:l.length-4=n-4:=by rw[bU.out]
  by_cases hq:iB (l.take (n-4))=l
  .have hE:m' l=0:=by unfold m';rw[if_neg (by rw[<- bU.out];exact h4),uh,if_pos hq]
   have hL:wK l=l.take (n-4):=by unfold wK;rw[hE,uh];rfl
   have ft:=aoU hE;have cO:=aoU hL;have hb:=Lt hq;clear hE hL uh hq;go_enter func222,ntmps222
   go_wp2_with fail;apply V.fQ (λW=>aoV w W) (by kernel_rfl) (by kernel_rfl) (λw1 h=>h)
   .intro aF aoX;iterate 3 (apply V.aj.ok;intros;go_simp;rfl;rfl;go_frame)
    apply V.aj.cG (p8 1 (cu (iB (l.take (n-4))))) V.ob [] []
    .exact λv W1 W2 h hs=>h.tW hs
    .rfl
    .intro vs w1 hK hS hf K ah;go_simp;refine(LZ A (n-4) c _ w1 (CM.up hS) (by omega)).mono ?_;rintro e w2⟨fX,c1,rfl,gu,aq⟩;exact ah.out _ _ (p8.own gu) (V.af.co aq) (Eu gu)
    simp only[au,Nat.reduceAdd];apply V.aj.yO [3] (v:= .string (tx (iB (l.take (n-4)))))
    .intro vs w1 hS hf;obtain⟨⟨fX,n1,c1,hv,-,hrd⟩,-⟩:=hf;exact Ls rfl hv hrd
    .rfl
    simp only[au,Nat.reduceAdd]
    (apply V.aj.ok;intros;go_simp;rfl;rfl;go_frame)
    apply V.aj.ok
    .intro vs w1 hS;exact Ls rfl rfl (hr.up hS)
    .rfl
    simp only[au,Nat.reduceAdd];apply V.aj.ok
    .intro vs w1 hS;go_simp
     with_reducible rfl
    .rfl
    simp only[au,Nat.reduceAdd]
    (apply V.aj.ok;intros;go_simp;rfl;rfl;go_frame)
    apply V.aj.fin [];intro vs w1 hK hS _;refine aoX.out _ _ ?_;clear aoX;have hu:=jR hK;go_wp2_with (at_builtin;refine iF _ qP (fC _ w.heap.size _ _) (CM.up hu) (sI _) (by omega) (by omega) hu.size rfl rfl rfl rfl ?_;intro v2 w2 ao5 ex sT;obtain⟨iA,c2,rfl⟩:=eL ao5;simp only[dV,gY] at ao5)
    go_ret2
    rw[ft.out,cO.out];exact⟨iA,n-4,c2,by simp,ao5,hu.grown ex (λg hg=>by simp[Value.ownBlock] at hg)⟩
   .kernel_rfl
  .have hE:m' l=5:=by unfold m';rw[if_neg (by rw[<- bU.out];exact h4),uh,if_neg hq]
   have hL:wK l= []:=by unfold wK;rw[hE];rfl
   have ft:=aoU hE;have cO:=aoU hL;have hb:=VO hq;clear hE hL uh hq;go_enter func222,ntmps222
   go_wp2_with fail;apply V.fQ (λW=>aoV w W) (by kernel_rfl) (by kernel_rfl) (λw1 h=>h)
   .intro aF aoX;iterate 3 (apply V.aj.ok;intros;go_simp;rfl;rfl;go_frame)
    apply V.aj.cG (p8 1 (cu (iB (l.take (n-4))))) V.ob [] []
    .exact λv W1 W2 h hs=>h.tW hs
    .rfl
    .intro vs w1 hK hS hf K ah;go_simp;refine(LZ A (n-4) c _ w1 (CM.up hS) (by omega)).mono ?_;rintro e w2⟨fX,c1,rfl,gu,aq⟩;exact ah.out _ _ (p8.own gu) (V.af.co aq) (Eu gu)
    simp only[au,Nat.reduceAdd];apply V.aj.yO [3] (v:= .string (tx (iB (l.take (n-4)))))
    .intro vs w1 hS hf;obtain⟨⟨fX,n1,c1,hv,-,hrd⟩,-⟩:=hf;exact Ls rfl hv hrd
    .rfl
    simp only[au,Nat.reduceAdd]
    (apply V.aj.ok;intros;go_simp;rfl;rfl;go_frame)
    apply V.aj.ok
    .intro vs w1 hS;exact Ls rfl rfl (hr.up hS)
    .rfl
    simp only[au,Nat.reduceAdd];apply V.aj.ok
    .intro vs w1 hS;go_simp
     with_reducible rfl
    .rfl
    simp only[au,Nat.reduceAdd]
    (apply V.aj.ok;intros;go_simp;rfl;rfl;go_frame)
    apply V.aj.fin [];intro vs w1 hK hS _;refine aoX.out _ _ ?_;clear aoX;have hu:=jR hK;go_wp2_with fail;go_ret2
    rw[ft.out,cO.out];exact⟨none,0,0,rfl,mc.out _,hu⟩
   .kernel_rfl
theorem aau(w:World)(n:Nat)(base:Nat)(h0:0<n)(hb:base<=w.heap.size)(hm:n<=140737488355328):
 ∃c w',(Builtin.append_ #[101,3] 101 #[.slice none 0 0,.int .i64 n]).run prog w= .ok (.slice (some ⟨w.heap.size,0,none⟩) n c) w'/\fG w' base (some ⟨w.heap.size,0,none⟩) 0 c []/\aoV w w'/\n<=c:=by
 obtain⟨i,hi,hz,hs,hby⟩:=info_parts (P:=prog) (e:=5) (z:= .int .u8 0) (size:=1) (bytes:=1) (by kernel_rfl);have:=Lib.run_append_nil_zeros (P:=prog) w 101 3 101 5 i (.int .u8 0) .i64 .i64 qP.ut underlying3 hi hz n h0 (by rw[hs];omega) (by omega) (by rw[hby];omega);have hge:=grownCap_ge w n 0 5;have hle:=grownCap_le_maxLen w n 0 5 (by simp only[maxLen];omega);refine⟨_,_,this,?_,(aoV.refl w).drew.alloc _,hge⟩;refine⟨rfl,.inr ⟨w.heap.size,_,_,rfl,hb,bp w.drew _,Nat.zero_le _,hle,?_,rfl⟩⟩;rw[Array.size_append,size_zeroCells,size_zeroCells]
 show n*1+(_-n)*1=_*1;omega
theorem aav(n:Nat)(w:World)(hm:n<=140737488355328):
 Calls prog 329 #[.slice none 0 0,.int .i64 n] w λe w'=>∃A c,e= .returned (.slice A 0 c)/\fG w' w.heap.size A 0 c []/\aoV w w':=by
 by_cases h0:0<n
 .go_enter func329,ntmps329
  obtain⟨c,w2,hrun,hown,hu,hc⟩:=aau w n w.heap.size h0 (aZ _) hm;have h9:(n:Int)<=9223372036854775807:=by omega
  go_wp2_with (at_builtin;refine Lib.wpList_append_run _ rfl _ _ _ _ rfl _ _ rfl rfl _ _ hrun ?_)
  go_ret;exact⟨_,c,rfl,hown,hu⟩
 .obtain rfl:n=0:=by omega
  go_enter func329,ntmps329
  go_wp2_with fail;go_ret;exact⟨none,0,rfl,fC _ _ _ _,aoV.refl _⟩
def na(ps:List lX):List UInt8:=ps.flatMap (·.l)
theorem WK{ps:List lX}{k:Nat}{p:lX}(h:ps[k]?=some p):na (ps.take (k+1))=na (ps.take k)++p.l:=by
 obtain⟨hk,rfl⟩:=List.getElem?_eq_some_iff.1 h;unfold na;rw[lU hk,List.flatMap_append,List.flatMap_singleton]
theorem WL(ps:List lX)(k:Nat):(na (ps.take k)).length<=(na ps).length:=by
 have:na ps=na (ps.take k)++na (ps.drop k):=by
  unfold na;rw[<- List.flatMap_append,List.take_append_drop]
 rw[this,dG];omega
theorem aaw(Q:Option Addr)(m d:Nat)(ps:List lX)(w:World)(hq:Rd w w.heap.size 1 Q m (ps.map lX.v))(hp:∀p∈ps,Rd w w.heap.size 1 p.A p.n (cu p.l))(ht:(na ps).length<=1099511627776)(hm:m<=9223372036854775807):
 Calls prog 298 #[.slice Q m d] w λe w'=>∃A c,e= .returned (.slice A (na ps).length c)/\fG w' w.heap.size A (na ps).length c (na ps)/\aoV w w':=by
 have eT:Hid (m=ps.length):=by show _=_;have:=hq.1;rw[iZ] at this;omega
 have ib:=aoU hp;clear hp;have at_:∀k,k<m->∃b o p,Q=some ⟨b,o,none⟩/\b<w.heap.size/\ps[k]?=some p/\p∈ps/\∀W,aoV w W->W.cell? ⟨b,o+k,none⟩=some (.slice p.A p.n p.c):=by
  intro k hk;obtain⟨b,o,e,hb,hc⟩:=hq.2 (by omega);have bS:k<ps.length:=by have:=eT.out;omega
  refine⟨b,o,ps[k],e,hb,dh bS,List.getElem_mem _,λW hW=>?_⟩;have h1:=hc k (ps[k]).v (by simp[bS]);exact(hW.cell (p:=⟨b,o+k,none⟩) hb).trans h1
 have WM:=aoU at_;clear at_;have fk:=aoU ht;clear ht;go_enter func298,ntmps298
 go_wp2_with fail;go_loop [3,5,11] (λt _ i=>∃k:Nat,i= .int .i64 k/\k<=m/\t= .int .i64 ((na (ps.take k)).length:Int)) (λ_ _ i=>m-(intOf i).toNat)
 case atStart=>exact⟨0,rfl,by omega,rfl⟩
 case round=>
  obtain⟨k,rfl,hk,rfl⟩:=hrel;by_cases hlt:k<m
  .obtain⟨b,o,p,rfl,hb,hpk,AI,hcell⟩:=WM.out k hlt;have hc:=hcell w (aoV.refl w);have hl:=(ib.out p AI).gO;have h1:=WK hpk;have h2:=WL ps (k+1);have h3:(na (ps.take (k+1))).length=(na (ps.take k)).length+p.n:=by rw[h1,dG,hl]
   have H3:=aoU h3;have hbd:(na (ps.take k)).length+p.n<=1099511627776:=by have:=fk.out;omega
   clear h1 h2 h3 hcell hl hpk;generalize (na (ps.take k)).length=s at *;go_wp2
   go_round
   case rel=>exact⟨k+1,by go_num,by omega,by rw[H3.out];go_num⟩
   case measure=>simp[intOf];omega
  .have hkm:k=m:=by omega
   subst hkm;have hall:ps.take k=ps:=lV (by have:=eT.out;omega);rw[hall];clear hall;have ud:(na ps).length<=140737488355328:=by have:=fk.out;omega
   go_wp2_with fail;refine(aav _ w ud).mono ?_;rintro e w1⟨fX,c1,rfl,gu,hu1⟩;go_wp2_with fail;go_loopw[6,8,27] (λv _ i wr=>∃(j:Nat)(R:Option Addr)(n c:Nat),i= .int .i64 j/\j<=k/\v= .slice R n c/\fG wr w.heap.size R n c (na (ps.take j))/\aoV w wr) (λ_ _ i _=>k-(intOf i).toNat)
   case atStart=>exact⟨0,fX,0,c1,rfl,by omega,rfl,gu,hu1⟩
   case round=>
    obtain⟨j,R,n,c,rfl,hj,rfl,ho,hu⟩:=hrel;by_cases hlt':j<k
    .obtain⟨b,o,p,rfl,hb,hpk,AI,hcell⟩:=WM.out j hlt';have hc:=hcell wr hu;have WN:=(ib.out p AI).stay (aZ _) hu;have hl:=WN.gO;have h1:=WK hpk;have h2:=WL ps (j+1);have hn:=ho.len;have hbd:n+p.n<=1099511627776:=by
      have:=fk.out;rw[h1,dG] at h2;omega
     have H1:=aoU h1;clear h1 h2 hcell hl hpk hn;go_wp2_with (at_builtin;refine iF _ qP ho WN (sI _) (by omega) (by omega) hu.size rfl rfl rfl rfl ?_;intro v2 w2 ao5 ex sT;obtain⟨iA,c2,rfl⟩:=eL ao5)
     rw[<- yG,<- H1.out] at ao5;have aq:aoV w w2:=hu.grown ex (λg hg=>(ho.lt g hg).1);go_roundw
     case rel=>exact⟨j+1,iA,n+p.n,c2,by go_num,by omega,rfl,ao5,aq⟩
     case measure=>simp[intOf];omega
    .have hjk:j=k:=by omega
     subst hjk;have hall:ps.take j=ps:=lV (by have:=eT.out;omega);rw[hall] at ho;have hn:=ho.len;have ff:=aoU hn;clear hn hall;go_wp2_with fail;go_ret;have hn:=ff.out;subst hn;exact⟨R,c,rfl,ho,hu⟩
def qo(kind:Int)(n:Nat):Nat:=if kind<1\/100<kind then 1 else if 60000<n then 2 else 0
def pI(kind:Int)(n:Nat):List UInt8:= [byteOf kind,UInt8.ofNat (n / 65536),UInt8.ofNat (n / 256),UInt8.ofNat n]
def lF(kind:Int)(l:List UInt8):List UInt8:=iB (pI kind l.length)++iB l
def wL(bs:List UInt8)(kind:Int)(l:List UInt8):List UInt8:=if qo kind l.length=0 then bs++lF kind l else []
theorem AJ(kind:Int)(l:List UInt8):(lF kind l).length=l.length+12:=by
 simp[lF,EV,pI];omega
theorem Qi(A:Option Addr)(n c:Nat)(bs:List UInt8)(kind:Int)(B:Option Addr)(m d:Nat)(l:List UInt8)(w:World)(hr:Rd w w.heap.size 1 A n (cu bs))(hb:Rd w w.heap.size 1 B m (cu l))(hn:n<=549755813888)(hm:m<=9223372036854775807):
 Calls prog 244 #[.slice A n c,.int .i64 kind,.slice B m d] w λe w'=>∃A' n' c',e= .returned (.tuple #[.slice A' n' c',.int .i64 (qo kind l.length:Int)])/\fG w' w.heap.size A' n' c' (wL bs kind l)/\aoV w w':=by
 have tj:∀w0,fG w0 w.heap.size none 0 0 []:=λw0=>fC _ _ _ _
 have mc:=aoU tj;clear tj;have eT:=aoU hb.gO;have ff:=aoU hr.gO;have bad:∀E:Nat,qo kind l.length=E->E≠0->wL bs kind l= []:=λE h h'=>by unfold wL;rw[if_neg (by rw[h];exact h')]
 by_cases iU:kind<1
 .have hE:qo kind l.length=1:=by unfold qo;rw[if_pos (.inl iU)]
  have hL:=bad 1 hE (by omega);have ft:=aoU hE;have cO:=aoU hL;clear hE hL bad;go_enter func244,ntmps244
  go_wp2_with fail;go_ret2
  rw[ft.out,cO.out];exact⟨none,0,0,rfl,mc.out _,aoV.refl _⟩
 by_cases hk2:100<kind
 .have hE:qo kind l.length=1:=by unfold qo;rw[if_pos (.inr hk2)]
  have hL:=bad 1 hE (by omega);have ft:=aoU hE;have cO:=aoU hL;clear hE hL bad;go_enter func244,ntmps244
  go_wp2_with fail;go_ret2
  rw[ft.out,cO.out];exact⟨none,0,0,rfl,mc.out _,aoV.refl _⟩
 by_cases ud:60000<m
 .have hE:qo kind l.length=2:=by unfold qo;rw[if_neg (by omega),if_pos (by rw[<- eT.out];exact ud)]
  have hL:=bad 2 hE (by omega);have ft:=aoU hE;have cO:=aoU hL;clear hE hL bad;go_enter func244,ntmps244
  go_wp2_with fail;go_ret2
  rw[ft.out,cO.out];exact⟨none,0,0,rfl,mc.out _,aoV.refl _⟩
 .have hE:qo kind l.length=0:=by unfold qo;rw[if_neg (by omega),if_neg (by rw[<- eT.out];exact ud)]
  have hL:wL bs kind l=bs++(iB (pI kind m)++iB l):=by unfold wL;rw[hE,if_pos rfl,eT.out];rfl
  have ft:=aoU hE;have cO:=aoU hL;clear hE hL bad;go_enter func244,ntmps244
  go_wp2_with fail;have hh:([.int .u8 kind,.int .u8 ((m:Int) / 65536),.int .u8 ((m:Int) / 256),.int .u8 ((m:Int)%256)]:List Value)=cu (pI kind m):=by
   have e0:kind=kind%256:=by omega
   have e1:(m:Int) / 65536=((m / 65536%256:Nat):Int):=by omega
   have e2:(m:Int) / 256=((m / 256%256:Nat):Int):=by omega
   have bG:(m:Int)%256=((m%256:Nat):Int):=by omega
   simp only[cu,pI,List.map_cons,List.map_nil,En,Ph,e1,e2,bG,<- e0]
  refine(LZ _ 4 4 (pI kind m) _ (Rd.Lj _ _ _ _ rfl hh) (by omega)).mono ?_;rintro e w1⟨fX,c1,rfl,gu,hu1⟩;have hw1:aoV w w1:=((aoV.refl w).alloc _).trans hu1;go_wp2_with fail;refine(LZ B m d l w1 (hb.up hw1) (by omega)).mono ?_;rintro e w2⟨iA,c2,rfl,qk,aq⟩;have pJ:aoV w w2:=hw1.trans aq;go_wp2_with fail
  have hq:Rd (w2.alloc (.cells #[.slice A n c,.slice fX 8 c1,.slice iA (m+4) c2] 101)) (w2.alloc (.cells #[.slice A n c,.slice fX 8 c1,.slice iA (m+4) c2] 101)).heap.size 1 (some ⟨w2.heap.size,0,none⟩) 3 ([⟨A,n,c,bs⟩,⟨fX,8,c1,iB (pI kind m)⟩,⟨iA,m+4,c2,iB l⟩].map lX.v):=Rd.made w2 _ _ rfl;have hl:na [⟨A,n,c,bs⟩,⟨fX,8,c1,iB (pI kind m)⟩,⟨iA,m+4,c2,iB l⟩]=bs++(iB (pI kind m)++iB l):=by simp[na]
  have wM:(bs++(iB (pI kind m)++iB l)).length<=1099511627776:=by
   have:=eT.out;have:=ff.out;simp[EV,pI];omega
  refine(aaw _ 3 3 _ _ hq ?_ (by rw[hl];exact wM) (by omega)).mono ?_
  .intro p hp;simp only[List.mem_cons,List.not_mem_nil,or_false] at hp;rcases hp with rfl|rfl|rfl
   .exact hr.up (pJ.alloc _)
   .exact(gu.up (aq.alloc _)).rd
   .exact(qk.up ((aoV.refl _).alloc _)).rd
  rintro e w3⟨rl,c3,rfl,oU,bV⟩;have tm:aoV w w3:=(pJ.alloc _).trans bV;rw[hl] at oU|-;clear hl wM hq hh;generalize (bs++(iB (pI kind m)++iB l)).length=aax at oU|-;have hsz:w.heap.size<=(w2.alloc (.cells #[.slice A n c,.slice fX 8 c1,.slice iA (m+4) c2] 101)).heap.size:=(pJ.alloc _).size;have ui:=jP oU hsz;clear oU hsz;go_wp2_with fail;go_ret2
  rw[ft.out,cO.out];exact⟨rl,aax,c3,rfl,ui,tm⟩
def lh(l:List aC):Nat:=if l.length=0 then 1 else if mP l≠0 then mP l else if 60000<(oT l).length then 2 else 0
def fh(l:List aC):List UInt8:=if lh l=0 then lF 1 (oT l) else []
theorem aay{l:List aC}(h:lh l=0):0<l.length/\mP l=0/\(oT l).length<=60000/\l.length<=2000/\l.all okB=true:=by
 unfold lh at h;split at h
 .cases h
 .split at h;omega
  .split at h
   .cases h
   .rename_i h1 h2 h3;have h4:mP l=0:=by omega
    refine⟨by omega,h4,by omega,?_⟩;unfold mP at h4;split at h4
    .cases h4
    .split at h4
     .exact⟨by omega,by assumption⟩
     .cases h4
theorem aaz(l:List aC)(h:l.length<=2000):(oT l).length<=64010:=by
 have h1:=pH (n:=l.length) (by omega);have h2:∀q:List aC,(q.flatMap wJ).length<=32*q.length:=λq=>by
  induction q with
  |nil=>simp
  |cons i q ih=>have:=Wy i;simp only[List.flatMap_cons,dG,iu];omega
 have h3:=h2 l;unfold oT;rw[dG];omega
theorem aaA{l:List aC}(h:mP l=0):l.length<=2000:=by
 unfold mP at h;split at h
 .cases h
 .omega
end
end Go.Proofs.YtfghplfgndppfaaGreatDoor
