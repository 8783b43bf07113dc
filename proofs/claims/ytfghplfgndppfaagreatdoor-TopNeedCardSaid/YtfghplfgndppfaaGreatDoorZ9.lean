/- Texts of this claim, joined: SkW1, ConV, OnceP, OnceW. -/
import Derived.Defers
import Derived.Laws.Pointers
import Derived.Laws.LoneSync
import Derived.IntWalk
import Derived.Tactics
import Derived.Tactics2
import Derived.RegionTactic
import Derived.RegionCalls
import Derived.ChangeAlike
import Derived.Test.YtfghplfgndppfaaGreatDoorZ8
set_option linter.unusedVariables false
set_option linter.unusedSimpArgs false
set_option maxRecDepth 100000
set_option maxHeartbeats 8000000
namespace Go.Proofs.YtfghplfgndppfaaGreatDoor
open Go.Proofs.Tryz
section
open Go.RowKit
section
variable{P:Program}{f:FuncId}{fn:Func}
theorem afD(hf:P.funcs[f]?=some fn) (hname:(fn.name== "runtime.NumGoroutine")=false) (hb:fn.body.isNone=true) (hn:Extern.findNext fn=none)
 (he:Extern.find fn=some (Extern.Atomic.loadT .ptr)) {a:Addr} {p:Option Addr} {w:World} (hc:w.cell? a=some (.pointer p)):
 (callFunc f #[.pointer (some a)]).run P w= .ok (.value (.pointer p)) w:=by
 rw[run_callFunc_extern hf hname hb hn he];change (Sem.run P (do Extern.Atomic.read .ptr (<- asAddr (.pointer (some a)))) w).andThen _=_
 simp[Extern.Atomic.read,asAddr,hc,Result.andThen]
theorem Fl(hf:P.funcs[f]?=some fn) (hname:(fn.name== "runtime.NumGoroutine")=false) (hb:fn.body.isNone=true) (hn:Extern.findNext fn=none)
 (he:Extern.find fn=some Extern.Atomic.storeT) {a:Addr} {p:Option Addr} {u:Value} {w:World} (hc:w.cell? a=some u) (hz:w.frozen? a=false):
 (callFunc f #[.pointer (some a),.pointer p]).run P w= .ok (.value (.tuple #[])) (w.setCell a (.pointer p)):=by
 rw[run_callFunc_extern hf hname hb hn he];change (Sem.run P (do
  store (<- asAddr (.pointer (some a))) (.pointer p) .atomic
  pure Extern.Atomic.none_) w).andThen _=_
 simp[asAddr,hc,hz,run_store P w a (.pointer p) .atomic rfl,Result.andThen,Extern.Atomic.none_]
theorem afE{src dst t:TypeId}(hs:P.underlying src=some .unsafePointer)(hd:P.underlying dst=some (.pointer t))(w:World):(convert src dst (.pointer none)).run P w= .ok (.pointer none) w:=by
 simp[convert,Conv.unsafePointer,run_underlying hs,run_underlying hd]
theorem afF{src dst t:TypeId}(hs:P.underlying src=some (.pointer t))(hd:P.underlying dst=some .unsafePointer)(w:World):(convert src dst (.pointer none)).run P w= .ok (.pointer none) w:=by
 simp[convert,Conv.unsafePointer,run_underlying hs,run_underlying hd]
end
theorem SB(a:Addr)(w:World)(hc:w.cell? a=some (.pointer none)):Calls prog 233 #[.pointer (some a)] w λe w'=>e= .returned (.pointer none)/\w'=w:=by
 have hl:=afD (P:=prog) func290 (by kernel_rfl) (by kernel_rfl) (by kernel_rfl) (by kernel_rfl) hc;have Nw:=afE (P:=prog) (src:=333) (dst:=316) underlying333 underlying316;go_enter func233,ntmps233
 go_wp2_with fail;go_ret;exact⟨rfl,rfl⟩
theorem afG(a:Addr)(w:World){u:Value}(hc:w.cell? a=some u)(hz:w.frozen? a=false):Calls prog 234 #[.pointer (some a),.pointer none] w λe w'=>e= .returned (.tuple #[])/\w'=w.setCell a (.pointer none):=by
 have hl:=Fl (P:=prog) func291 (by kernel_rfl) (by kernel_rfl) (by kernel_rfl) (by kernel_rfl) (p:=none) hc hz;have Nw:=afF (P:=prog) (src:=316) (dst:=333) underlying316 underlying333;go_enter func234,ntmps234
 go_wp2_with fail;exact bodyPost_end (kV rfl _ _ _) rfl ⟨rfl,rfl⟩
theorem afH(a b:Addr)(w:World){u v:Value}(hc:w.cell? a=some u)(hz:w.frozen? a=false)(hb:w.cell? b=some v):Calls prog 234 #[.pointer (some a),.pointer (some b)] w λe w'=>e= .returned (.tuple #[])/\w'=w.setCell a (.pointer (some b)):=by
 have hl:=Fl (P:=prog) func291 (by kernel_rfl) (by kernel_rfl) (by kernel_rfl) (by kernel_rfl) (p:=some b) hc hz;have Nw:=run_convert_to_unsafe (P:=prog) (src:=316) (dst:=333) underlying316 underlying333 (by kernel_rfl) hb;go_enter func234,ntmps234
 go_wp2_with fail;exact bodyPost_end (kV rfl _ _ _) rfl ⟨rfl,rfl⟩
theorem afI(w:World)(h:Nat)(hh:h<=6):(Instr.makeSlice 336 (.int .i64 h) (.int .i64 h)).run prog w= .ok (.slice (some ⟨w.heap.size,0,none⟩) h h) (w.alloc (.cells (Array.replicate h (.pointer none)) 335)):=by
 obtain⟨i,hi,hz,hs,hby⟩:=info_parts (P:=prog) (e:=335) (z:= .agg #[.pointer none]) (size:=1) (bytes:=8) (by kernel_rfl);have afJ:prog.underlying 336=some (.slice 335):=underlying336;rw[run_make w _ _ i _ afJ hi hz .i64 .i64 (h:Int) (h:Int) (by omega) (Int.le_refl _) (by rw[hby];omega) (by omega)];rw[hs,Nat.mul_one];have e:((h:Nat):Int).toNat=h:=by omega
 rw[e]
 congr 3
 apply Array.toList_inj.1;show(madeCells #[Value.pointer none] h).toList=_;rw[toList_madeCells_one];simp
theorem s4(x0 x1 x2 x3 qm:Value)(h:Nat)(hh:h<=6)(w:World)(ho:(#[x0,x1,x2,x3,qm]:Array Value).all (·.oneCell')=true):
 Calls prog 225 #[.agg #[x0,x1,x2,x3,qm],.int .i64 h] w λe w'=>∃g gn,e= .returned (.pointer (some ⟨g,0,none⟩))/\w'.heap[g]?=some (.cells #[x0,x1,x2,x3,qm,.slice (some ⟨gn,0,none⟩) h h] 338 (0,0))/\w'.heap[gn]?=some (.cells (Array.replicate h (.pointer none)) 335 (0,0))/\w.heap.size<=g/\w.heap.size<=gn/\aoV w w':=by
 have aQ:aoV w (w.alloc (.cells #[x0,x1,x2,x3,qm] 37)):=(aoV.refl w).alloc _;have aL:=bp w (.cells #[x0,x1,x2,x3,qm] 37);go_enter func225,ntmps225
 go_wp2_with fail;generalize w.alloc (.cells #[x0,x1,x2,x3,qm] 37)=wa at *;have eG:=aQ.size;generalize eH:w.heap.size=br at *;have hcell:∀W,aoV wa W->W.cell? ⟨br,0,none⟩=some x0/\W.cell? ⟨br,1,none⟩=some x1/\W.cell? ⟨br,2,none⟩=some x2/\W.cell? ⟨br,3,none⟩=some x3/\W.cell? ⟨br,4,none⟩=some qm:=λW hW=>by
  have e:=aH hW aL;exact⟨aoW e 0,aoW e 1,aoW e 2,aoW e 3,aoW e 4⟩
 have cB:=aoU hcell;have Nx:=aoU eH;clear hcell aL eH;apply V.iE (λi vs W=>aoV wa W/\
  (i=1->∃gn,vs 2= .slice (some ⟨gn,0,none⟩) h h/\br<=gn/\W.heap[gn]?=some (.cells (Array.replicate h (.pointer none)) 335 (0,0)))/\
  (i=2->∃gn,vs 3= .agg #[x0,x1,x2,x3,qm,.slice (some ⟨gn,0,none⟩) h h]/\br<=gn/\W.heap[gn]?=some (.cells (Array.replicate h (.pointer none)) 335 (0,0)))/\
  (i=3->∃gn g,vs 4= .pointer (some ⟨g,0,none⟩)/\br<=gn/\br<=g/\W.heap[gn]?=some (.cells (Array.replicate h (.pointer none)) 335 (0,0))/\W.heap[g]?=some (.cells #[x0,x1,x2,x3,qm,.slice (some ⟨gn,0,none⟩) h h] 338 (0,0)))/\
  (i=4->∃gn g,vs 5= .pointer (some ⟨g,0,none⟩)/\br<=gn/\br<=g/\W.heap[gn]?=some (.cells (Array.replicate h (.pointer none)) 335 (0,0))/\W.heap[g]?=some (.cells #[x0,x1,x2,x3,qm,.slice (some ⟨gn,0,none⟩) h h] 338 (0,0))))
  (by kernel_rfl) (by kernel_rfl) (λvs=>⟨aoV.drew (aoV.refl wa),λe=>absurd e (by decide),λe=>absurd e (by decide),λe=>absurd e (by decide),λe=>absurd e (by decide)⟩)
 .intro aF aoX;iterate 2 (apply V.az.ok;(· intro i vs ai hS;obtain⟨d0,d1,d2,d3,d4⟩:=cB.out ai hS.1;clear hS;go_simp;(try with_reducible rfl));(· rfl);simp only[au,Nat.reduceAdd])
  apply V.az.cG;rfl
  .intro vs ag hS cY ah;obtain⟨k1,-⟩:=hS;have hmk:=afI ag h hh;have hal:=(aoV.refl ag).alloc (.cells (Array.replicate h (.pointer none)) 335);have aS:=ah.out (.slice (some ⟨ag.heap.size,0,none⟩) h h) _ ⟨k1.trans hal,λ_=>⟨ag.heap.size,by rw[V.eV],by have:=k1.size;omega,bp ag _⟩,λe=>absurd e (by decide),λe=>absurd e (by decide),λe=>absurd e (by decide)⟩;have aK:=aoU aS;clear aS ah;go_simp;exact aK.out
  simp only[au,Nat.reduceAdd];apply V.az.cG;rfl
  .intro vs ag hS cY ah;obtain⟨k1,k2,-⟩:=hS;obtain⟨gn,hv,h1,h2⟩:=k2 rfl;have aS:=ah.out (.agg #[x0,x1,x2,x3,qm,.slice (some ⟨gn,0,none⟩) h h]) ag ⟨k1,λe=>absurd e (by decide),λ_=>⟨gn,by rw[V.eV],h1,h2⟩,λe=>absurd e (by decide),λe=>absurd e (by decide)⟩;have aK:=aoU aS;clear aS ah k2
   (try dsimp only at aK|-)
   rw[hv] at aK|-;clear hv;go_simp;exact aK.out
  simp only[au,Nat.reduceAdd];apply V.az.cG;rfl
  .intro vs ag hS cY ah;obtain⟨k1,-,k2,-⟩:=hS;obtain⟨gn,hv,h1,h2⟩:=k2 rfl;have hal:=(aoV.refl ag).alloc (.cells #[x0,x1,x2,x3,qm,.slice (some ⟨gn,0,none⟩) h h] 338);have aS:=ah.out (.pointer (some ⟨ag.heap.size,0,none⟩)) _ ⟨k1.trans hal,λe=>absurd e (by decide),λe=>absurd e (by decide),λ_=>⟨gn,ag.heap.size,by rw[V.eV],h1,by have:=k1.size;omega,aH hal h2,bp ag _⟩,λe=>absurd e (by decide)⟩;have aK:=aoU aS;clear aS ah k2
   (try dsimp only at aK|-)
   rw[hv] at aK|-;clear hv;go_simp;exact aK.out
  simp only[au,Nat.reduceAdd];apply V.az.cG;rfl
  .intro vs ag hS cY ah;obtain⟨k1,-,-,k2,-⟩:=hS;obtain⟨gn,g,hv,h1,h2,h3,h4⟩:=k2 rfl;have aS:=ah.out (.pointer (some ⟨g,0,none⟩)) ag ⟨k1,λe=>absurd e (by decide),λe=>absurd e (by decide),λe=>absurd e (by decide),λ_=>⟨gn,g,by rw[V.eV],h1,h2,h3,h4⟩⟩;have aK:=aoU aS;clear aS ah k2
   (try dsimp only at aK|-)
   rw[hv] at aK|-;clear hv;go_simp;exact aK.out
  simp only[au,Nat.reduceAdd];apply V.az.fin;intro vs ag hS;obtain⟨k1,-,-,-,k2⟩:=hS;obtain⟨gn,g,hv,h1,h2,h3,h4⟩:=k2 rfl;refine aoX.out _ _ ?_;clear aoX k2
  (try dsimp only)
  rw[hv];clear hv;go_wp2_with fail;go_ret;exact⟨g,gn,rfl,h4,h3,by rw[Nx.out];exact h2,by rw[Nx.out];exact h1,aQ.trans k1⟩
 .kernel_rfl
def fc(g:Nat)(lb:Array Value)(p:Value->Bool)(vs:List Value)(w:World):Prop:=∀(W:World)(k:Nat)(hk:k<vs.length),(∀j (hj:j<k),p (vs[j]'(Nat.lt_trans hj hk))=false)->aoV w W->Calls prog g (#[vs[k]]++lb) W λe w'=>e= .returned (.bool (p vs[k]))/\aoV W w'
theorem rd_val{w:World}{B n:Nat}{A:Option Addr}{l:List Value}(h:Rd w B 1 A n l){i:Nat}(hi:i<l.length):∃b o,A=some ⟨b,o,none⟩/\b<B/\w.cell? ⟨b,o+i,none⟩=some l[i]:=by
 have hn:l.length=n*1:=h.1;obtain⟨b,o,e,hb,hc⟩:=h.2 (by omega);exact⟨b,o,e,hb,hc i _ (dh hi)⟩
theorem HE{w:World}{B n:Nat}{A:Option Addr}{l:List Value}(h:Rd w B 1 A n l):n=l.length:=by have:=h.1;omega
theorem af4(g:Nat)(lb:Array Value)(p:Value->Bool)(A:Option Addr)(n c:Nat)(l:List Value)(w:World)(hr:Rd w w.heap.size 1 A n l)(hn:n<=9223372036854775807)(eg:∀args w,(callFunc g args).run prog w= .ok (.enter g args) w)(hp:fc g lb p l w):
 Calls prog 212 #[.slice A n c,.func (.func g) #[] lb] w λe w'=>e= .returned (.int .i64 (nP p l))/\aoV w w':=by
 have bU:=aoU (HE hr);have ib:=aoU hp;have fJ:=aoU hr;clear hp hr;go_enter func212,ntmps212
 go_wp2_with fail;go_loopw[8] (λi wr=>∃k:Nat,i= .int .i64 k/\k<=n/\Hid (∀j (hj:j<k) (hl:j<l.length),p l[j]=false)/\aoV w wr) (λi _=>n-(intOf i).toNat)
 case atStart=>exact⟨0,rfl,by omega,λj hj=>absurd hj (Nat.not_lt_zero _),aoV.refl _⟩
 case round=>
  obtain⟨k,rfl,hk,hall,hu⟩:=hrel;by_cases hlt:k<n
  .have bS:k<l.length:=by have:=bU.out;omega
   obtain⟨b,o,rfl,hb,c0⟩:=rd_val (fJ.out.stay (aZ _) hu) bS;obtain⟨x,hx⟩:=bB (l[k])
   have gQ:=ib.out wr k bS (λj hj=>hall.out j hj (Nat.lt_trans hj bS)) hu;rw[<- hx] at c0 gQ;have ew:=aoU hx;clear hx;go_wp2_with fail;refine gQ.mono ?_;rintro e w2⟨rfl,aq⟩;obtain⟨q,hq⟩:=bB (p x)
   rw[<- hq];have ji:=aoU hq;clear hq c0 gQ;cases q
   .go_wp2_with fail;go_roundw
    case rel=>
     refine⟨k+1,by go_num,by omega,?_,hu.trans aq⟩;intro j hj hl;by_cases hjk:j=k
     .subst hjk;rw[<- ew.out,<- ji.out]
     .exact hall.out j (by omega) hl
    case measure=>simp[intOf];omega
   .go_wp2_with fail;go_ret;refine⟨?_,hu.trans aq⟩;rw[apu (k:=k) bS (λj hj=>hall.out j hj (by omega)) (by rw[<- ew.out,<- ji.out])];rfl
  .go_wp2_with fail;go_ret;refine⟨?_,hu⟩;rw[E9 (λj hj=>hall.out j (by have:=bU.out;omega) hj)];rfl
theorem SF(g:Nat)(lb:Array Value)(p:Value->Bool)(A:Option Addr)(n c:Nat)(l:List Value)(w:World)(hr:Rd w w.heap.size 1 A n l)(hn:n<=9223372036854775807)(eg:∀args w,(callFunc g args).run prog w= .ok (.enter g args) w)(hp:fc g lb p l w):
 Calls prog 144 #[.slice A n c,.func (.func g) #[] lb] w λe w'=>e= .returned (.bool (l.any p))/\aoV w w':=by
 have iw:=aoU (Io p l);have bh:=aoU (af4 g lb p A n c l w hr hn eg hp);clear hp;go_enter func144,ntmps144
 go_wp2_with fail;refine bh.out.mono ?_;rintro e w1⟨rfl,hu⟩;generalize nP p l=z at *;go_wp2_with fail;go_ret;refine⟨congrArg (λq=>Ending.returned (Value.bool q)) ?_,hu⟩;rw[<- iw.out]
theorem F2(w:World):(callFunc 360 #[]).run prog w= .ok (.value (.tuple #[])) w:=run_call_mark0 func360 (by kernel_rfl) (by kernel_rfl) (by kernel_rfl) .disable (by kernel_rfl) w
theorem bP(w:World):(callFunc 362 #[]).run prog w= .ok (.value (.tuple #[])) w:=run_call_mark0 func362 (by kernel_rfl) (by kernel_rfl) (by kernel_rfl) .enable (by kernel_rfl) w
theorem ah'(a:Addr)(w:World):(callFunc 363 #[.pointer (some a)]).run prog w= .ok (.value (.tuple #[])) w:=run_call_marked func363 (by kernel_rfl) (by kernel_rfl) (by kernel_rfl) .acquire (by kernel_rfl) a w
theorem aia(a:Addr)(w:World):(callFunc 365 #[.pointer (some a)]).run prog w= .ok (.value (.tuple #[])) w:=run_call_marked func365 (by kernel_rfl) (by kernel_rfl) (by kernel_rfl) .releaseMerge (by kernel_rfl) a w
theorem aib(a:Addr)(x:Value)(u:FrameMode)(w:World)(hc:w.cell? a=some x)(hz:w.frozen? a=false):
 CallsD prog 305 #[.pointer (some a),.bool true] u w λe u' w'=>u'=u/\(e= .returned (.tuple #[])/\w'=w.drew.setCell a (.int .u32 1)):=by
 have jz:w.drew.cell? a=some x:=by go_simp
 have aic:w.drew.frozen? a=false:=by go_simp
 have hst:=run_call_store (P:=prog) func333 (by kernel_rfl) (by kernel_rfl) (by kernel_rfl) (by kernel_rfl) (k:= .u32) (y:=1) jz aic;go_enter_d func305,ntmps305
 go_wp2
 go_region_calls
 all_goals (go_end0;exact⟨rfl,rfl⟩)
theorem aie(a:Addr)(u:FrameMode)(w:World)(hc:w.cell? a=some (.int .i32 1))(hz:w.frozen? a=false):
 CallsD prog 304 #[.pointer (some a)] u w λe u' w'=>u'=u/\(e= .returned (.tuple #[])/\w'=w.setCell a (.int .i32 0)):=by
 have hd:=F2;have he:=bP;have hr:=aia;have wu:=run_call_add (P:=prog) func366 (by kernel_rfl) (by kernel_rfl) (by kernel_rfl) .i32 (by kernel_rfl) (y:= -1) (s:=0) hc hz (by simp[go_sem];rfl);have Nw:=run_convert_to_unsafe (P:=prog) (src:=452) (dst:=333) underlying452 underlying333 (by kernel_rfl) hc;go_enter_d func304,ntmps304
 go_wp2
 go_end0
 go_wp2
 go_end0
 exact⟨rfl,rfl⟩
theorem aif(a:Addr)(w:World)(hc:w.cell? a=some (.int .i32 0))(hz:w.frozen? a=false):
 Calls prog 303 #[.pointer (some a)] w λe w'=>e= .returned (.tuple #[])/\w'=w.setCell a (.int .i32 1):=by
 have hd:=F2;have he:=bP;have ha:=ah';have anP:=run_call_cas_hit (P:=prog) func361 (by kernel_rfl) (by kernel_rfl) (by kernel_rfl) .i32 (by kernel_rfl) (y:=1) hc hz;have jz:(w.setCell a (.int .i32 1)).cell? a=some (.int .i32 1):=World.cell?_setCell_same w a _ hc;have Nw:=run_convert_to_unsafe (P:=prog) (src:=452) (dst:=333) underlying452 underlying333 (by kernel_rfl) jz;go_enter func303,ntmps303
 go_wp2
 first|go_end0|(simp only[Exit.inBlock,Exit.then];refine dm (kV rfl _ _ _) rfl ?_)|refine dm (kV rfl _ _ _) rfl ?_
 go_wp2
 go_end0
 exact⟨rfl,rfl⟩
theorem Sl(a:Addr)(d:Int)(w:World)(h0:w.cell? a=some (.int .u32 d)):
 Calls prog 258 #[.pointer (some a)] w λe w'=>e= .returned (.bool (d !=0))/\w=w':=by
 have hl:=run_call_load (P:=prog) func302 (by kernel_rfl) (by kernel_rfl) (by kernel_rfl) .u32 (by kernel_rfl) h0;go_enter func258,ntmps258
 go_wp2_with fail;go_ret;exact⟨rfl,rfl⟩
theorem ap7(g o F:Nat)(lb:Array Value)(w:World)(cs:Array Value)(t:TypeId)(hd:w.heap[g]?=some (.cells cs t (0,0)))(h0:cs[o]?=some (.int .u32 0))(h1:cs[o+1]?=some (.int .i32 0))(Post:World->Prop)(eg:∀args w,(callFunc F args).run prog w= .ok (.enter F args) w)(hF:Calls prog F lb (w.setCell ⟨g,o+1,none⟩ (.int .i32 1)) λe w2=>e= .returned (.tuple #[])/\Post w2)(hP:∀w2,Post w2->∃BT,w2.heap[g]?=some (.cells BT t (0,0))/\(∃x,BT[o]?=some x)/\BT[o+1]?=some (.int .i32 1)):
 Calls prog 259 #[.pointer (some ⟨g,o,none⟩),.func (.func F) #[] lb] w λe w'=>e= .returned (.tuple #[])/\∃w2,Post w2/\w'=(w2.drew.setCell ⟨g,o,none⟩ (.int .u32 1)).setCell ⟨g,o+1,none⟩ (.int .i32 0):=by
 have c3:w.cell? ⟨g,o+1,none⟩=some (.int .i32 0):=(aoW hd (o+1)).trans h1;have f3:=ay hd (o+1);have jX:=bM w g (o+1) (.int .i32 1) _ _ hd;have c2:(w.setCell ⟨g,o+1,none⟩ (.int .i32 1)).cell? ⟨g,o,none⟩=some (.int .u32 0):=(aoW jX o).trans (by rw[pZ (by omega)];exact h0);obtain⟨w1,hw1⟩:=bB (w.setCell ⟨g,o+1,none⟩ (.int .i32 1))
 rw[<- hw1] at c2 hF;have fT:=aoU hw1;have dz:=aoU hF;have ib:=aoU hP;have hnot:∀(x:Bool)(w:World),(Op.unary .not (.bool x)).run prog w= .ok (.bool (!x)) w:=λ_ _=>rfl
 clear hw1 hF hP hd jX h0 h1;go_enter_defers func259,ntmps259
 go_wp2_with (first|(go_at_call 303;refine(aif ⟨g,o+1,none⟩ _ c3 f3).mono ?_;rintro e w'⟨rfl,rfl⟩;rw[<- fT.out])|(go_at_call 258;refine(Sl ⟨g,o,none⟩ 0 _ c2).mono ?_;rintro e w'⟨rfl,rfl⟩;rw[show((0:Int) !=0)=false from rfl]))
 refine dz.out.mono ?_;rintro e w2⟨rfl,hpost⟩;obtain⟨BT,dw,⟨x,hx⟩,hm⟩:=ib.out w2 hpost;go_wp2_with fail;refine leaves_cons (f:=305) (args:= #[.pointer (some ⟨g,o,none⟩),.bool true]) (by simp) (by simp[go_sem]) ?_;refine(aib ⟨g,o,none⟩ x .returning _ ((aoW dw o).trans hx) (ay dw o)).mono ?_;rintro e u' w''⟨rfl,rfl,rfl⟩;have iJ:=bM w2.drew g o (.int .u32 1) _ _ dw;refine leaves_cons (f:=304) (args:= #[.pointer (some ⟨g,o+1,none⟩)]) (by simp[settle]) (by simp[go_sem]) ?_
 refine(aie ⟨g,o+1,none⟩ _ _ ((aoW iJ (o+1)).trans (by rw[pZ (by omega)];exact hm)) (ay iJ (o+1))).mono ?_;rintro e u' w''⟨rfl,rfl,rfl⟩;have aS:∃ag,Post ag/\(w2.drew.setCell ⟨g,o,none⟩ (.int .u32 1)).setCell ⟨g,o+1,none⟩ (.int .i32 0)=(ag.drew.setCell ⟨g,o,none⟩ (.int .u32 1)).setCell ⟨g,o+1,none⟩ (.int .i32 0):=⟨w2,hpost,rfl⟩
 have aK:=aoU aS;clear aS;generalize (w2.drew.setCell ⟨g,o,none⟩ (.int .u32 1)).setCell ⟨g,o+1,none⟩ (.int .i32 0)=ag at *;simp[Leaves,settle,results,results259]
 exact aK.out
theorem gi(g o F:Nat)(lb:Array Value)(w:World)(cs:Array Value)(t:TypeId)(hd:w.heap[g]?=some (.cells cs t (0,0)))(h0:cs[o]?=some (.int .u32 0))(h1:cs[o+1]?=some (.int .i32 0))(Post:World->Prop)(eg:∀args w,(callFunc F args).run prog w= .ok (.enter F args) w)(hF:Calls prog F lb (w.setCell ⟨g,o+1,none⟩ (.int .i32 1)) λe w2=>e= .returned (.tuple #[])/\Post w2)(hP:∀w2,Post w2->∃BT,w2.heap[g]?=some (.cells BT t (0,0))/\(∃x,BT[o]?=some x)/\BT[o+1]?=some (.int .i32 1)):
 Calls prog 188 #[.pointer (some ⟨g,o,none⟩),.func (.func F) #[] lb] w λe w'=>e= .returned (.tuple #[])/\∃w2,Post w2/\w'=(w2.drew.setCell ⟨g,o,none⟩ (.int .u32 1)).setCell ⟨g,o+1,none⟩ (.int .i32 0):=by
 have c2:w.cell? ⟨g,o,none⟩=some (.int .u32 0):=(aoW hd o).trans h0;have dg:=aoU (ap7 g o F lb w cs t hd h0 h1 Post eg hF hP);have hnot:∀(x:Bool)(w:World),(Op.unary .not (.bool x)).run prog w= .ok (.bool (!x)) w:=λ_ _=>rfl
 clear hd h0 h1 hF hP;go_enter func188,ntmps188
 go_wp2_with (first|(go_at_call 258;refine(Sl ⟨g,o,none⟩ 0 _ c2).mono ?_;rintro e w'⟨rfl,rfl⟩;rw[show((0:Int) !=0)=false from rfl])|(go_at_call 259;refine dg.out.mono ?_;rintro e w2⟨rfl,hpost⟩))
 exact bodyPost_end (kV rfl _ _ _) rfl ⟨rfl,hpost⟩
end
end Go.Proofs.YtfghplfgndppfaaGreatDoor
