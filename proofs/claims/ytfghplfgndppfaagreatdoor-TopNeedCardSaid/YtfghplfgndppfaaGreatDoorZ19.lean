/- Texts of this claim, joined: BlkCut, StW5, BlkCut2, StW6, StW7. -/
import Derived.RangeFuncNested
import Derived.IntWalk
import Derived.RangeFuncBound
import Derived.RangeFuncCalls
import Derived.RangeFuncLeaves
import Derived.RangeFuncFrom
import Derived.RangeFuncBox
import Derived.Shelf.Abstract
import Derived.Shelf.RegionOpen
import Derived.WalkKit
import Derived.OwnWalkIn
import Derived.TacticsInMore
import Derived.LoopNIn
import Derived.LoopIn
import Derived.Lib.SliceRun
import Derived.Test.YtfghplfgndppfaaGreatDoorZ5
import Derived.Test.YtfghplfgndppfaaGreatDoorZ12
set_option linter.unusedVariables false
set_option linter.unusedSimpArgs false
set_option maxRecDepth 100000
set_option maxHeartbeats 8000000
namespace Go.Proofs.YtfghplfgndppfaaGreatDoor
open Go.Proofs.Tryz
section
open Go.RowKit Go.Shelf
attribute [local go_sem] Oper.semAt_some
def xe(q n k:Nat):List (Nat×Nat):=(List.range k).map λj=>(j*q,min q (n-j*q))
theorem Zf(q n k:Nat):xe q n (k+1)=xe q n k++[(k*q,min q (n-k*q))]:=by simp[xe,List.range_succ]
theorem Zg(q n k:Nat):(xe q n k).length=k:=by simp[xe]
def oB(Bs jn:Nat)(W W':World):Prop:=W.heap.size<=W'.heap.size/\W'.heap[Bs]?=W.heap[Bs]?/\W'.heap[jn]?=W.heap[jn]?
theorem oB.refl(Bs jn:Nat)(W:World):oB Bs jn W W:=⟨aZ _,rfl,rfl⟩
theorem oB.trans{Bs jn:Nat}{A B C:World}(h:oB Bs jn A B)(k:oB Bs jn B C):oB Bs jn A C:=⟨bQ h.1 k.1,k.2.1.trans h.2.1,k.2.2.trans h.2.2⟩
theorem oB.cs{Bs jn:Nat}{A B:World}{v:Value}(h:oB Bs jn A B)(hc:A.cell? ⟨Bs,0,none⟩=some v):B.cell? ⟨Bs,0,none⟩=some v:=(mv h.2.1).trans hc
theorem oB.Zh{Bs jn:Nat}{A B:World}{v:Value}(h:oB Bs jn A B)(hc:A.cell? ⟨jn,0,none⟩=some v):B.cell? ⟨jn,0,none⟩=some v:=(mv h.2.2).trans hc
theorem oB.up{Bs jn:Nat}{A B:World}(h:aoV A B)(h1:Bs<A.heap.size)(h2:jn<A.heap.size):oB Bs jn A B:=⟨h.size,h.block _ h1,h.block _ h2⟩
def Bn(b o n:Nat)(x:Nat×Nat):Value:= .slice (some ⟨b,o+min x.1 n*5,none⟩) (min x.2 (n-min x.1 n)) (min x.2 (n-min x.1 n))
theorem Zi(w:World):(sizeOf 37).run prog w= .ok 5 w:=by
 obtain⟨_,⟨i,z,hi,_,hs,_⟩,_⟩:=AO;simp[sizeOf,typeInfo,hi,hs]
theorem MW:prog.elem 30=37:=by kernel_rfl
theorem Zj(W:World)(A:Option Addr)(n c i:Nat)(h1:i<=n):
 (Instr.slice 30 (.slice A n c) (some (.int .i64 i)) none none).run prog W= .ok (.slice (kH A c i 5) (n-i) (c-i)) W:=by
 rw[run_slice_l W 30 A n c (by rw[MW];exact underlying30) .i64 (i:Int) (by omega) (by omega),MW,Zi];simp[sliced,kH]
theorem adk(W:World)(b o n c i fw:Nat)(h:1<=fw)(h2:i+fw<=c):
 (Instr.slice 30 (.slice (some ⟨b,o,none⟩) n c) (some (.int .i64 i)) (some (.int .i64 ((i:Int)+(fw:Int)))) (some (.int .i64 ((i:Int)+(fw:Int))))).run prog W= .ok (.slice (some ⟨b,o+i*5,none⟩) fw fw) W:=by
 rw[run_slice_lhm W 30 (some ⟨b,o,none⟩) n c (by rw[MW];exact underlying30) .i64 .i64 .i64 (i:Int) ((i:Int)+(fw:Int)) ((i:Int)+(fw:Int)) (by omega) (by omega) (by omega) (by omega),MW,Zi];have e1:((i:Int)+(fw:Int)).toNat=i+fw:=by omega
 have e2:¬(i+fw=i):=by omega
 have bG:i+fw-i=fw:=by omega
 have bT:(⟨b,o,none⟩:Addr).add (i*5)=⟨b,o+i*5,none⟩:=by unfold Addr.add;split <;>simp_all
 simp only[Result.andThen,sliced,Int.toNat_natCast,e1,if_neg e2,bG,Option.map_some,bT]
theorem adl(d:Nat)(hd:1<=d)(l Bs jn b o n c q K:Nat)(hq1:1<=q)(eM:q<=100000)(hn:n<=1099511627776)(hnc:n<=c)(hK:n<=K*q)(fI:∀k,k<K->k*q<n)(J MX:List (Nat×Nat)->World->Prop)(hY:∀pre x W,J pre W->pre.length<K->YieldAt Fence.wide (d-1) prog l #[Bn b o n x] W λe W'=>
  (e= .returned (.bool true)/\J (pre++[x]) W'/\oB Bs jn W W')\/(e= .returned (.bool false)/\MX (pre++[x]) W'))(ap2:∀pre W W',J pre W->W.grownBy W' none->J pre W')(W:World)(FD:W.cell? ⟨Bs,0,none⟩=some (.slice (some ⟨b,o,none⟩) n c))(FE:W.cell? ⟨jn,0,none⟩=some (.int .i64 q))(h0:J [] W):
 CallsIn Fence.wide d prog 194 #[.func (.yield l) #[] #[],.pointer (some ⟨Bs,0,none⟩),.pointer (some ⟨jn,0,none⟩)] W λe W'=>(∃v,e= .returned v)/\
  ((∃ys,ys=xe q n K/\J ys W')\/(∃pre,(∃k,k<=K/\pre=xe q n k)/\MX pre W')):=by
 refine callsIn_of_wp func194 rfl trivial ?_ rfl;simp only[ntmps194,List.size_toArray,iu,List.length_nil,Nat.reduceAdd,Nat.reduceSub,Array.replicate_succ,Array.replicate_zero,List.push_toArray,List.append_toArray,gY,List.cons_append]
 gi_wp2
 gi_loopw [4] (λi wr=>∃k i':Nat,k<=K/\i= .int .i64 i'/\i'=k*q/\J (xe q n k) wr/\oB Bs jn W wr)
  (λi _=>n-(intOf i).toNat)
 case atStart=>exact⟨0,0,Nat.zero_le _,rfl,by simp,h0,oB.refl _ _ _⟩
 case round=>
  obtain⟨k,i,hk,rfl,hi,Zk,Dt⟩:=hrel;have c1:=Dt.cs FD;have c2:=Dt.Zh FE;have l1:Bs<wr.heap.size:=World.block_lt_of_cell? wr ⟨Bs,0,none⟩ c1;have l2:jn<wr.heap.size:=World.block_lt_of_cell? wr ⟨jn,0,none⟩ c2;have fS:=aoU hi;clear hi;by_cases hlt:k<K
  .have Rv:=fI k hlt;rw[<- fS.out] at Rv;obtain⟨fw,Lx⟩:∃e,e=min q (n-i):=⟨_,rfl⟩
   have Bo:1<=fw:=by omega
   have Zl:i+fw<=n:=by omega
   have hik:i<=1099511627776:=by omega
   have h1:(i:Int)<(n:Int):=by omega
   have hmin:(if n-i<q then((n-i:Nat):Int) else(q:Int))=(fw:Int):=by split <;>omega
   have Zm:∀W,(Instr.slice 30 (.slice (some ⟨b,o,none⟩) n c) (some (.int .i64 i)) none none).run prog W= .ok (.slice (kH (some ⟨b,o,none⟩) c i 5) (n-i) (c-i)) W:=λW=>Zj W _ n c i (by omega)
   have Zn:=aoU Lx;clear Lx;have hS:∀W',aoV wr W'->aoV wr W'/\W'.cell? ⟨Bs,0,none⟩=some (.slice (some ⟨b,o,none⟩) n c)/\W'.cell? ⟨jn,0,none⟩=some (.int .i64 q):=λW' h=>
    ⟨h,(h.cell (p:=⟨Bs,0,none⟩) l1).trans c1,(h.cell (p:=⟨jn,0,none⟩) l2).trans c2⟩
   gi_wp2
   refine wpIn_wide.2 ?_;apply V.fQ _ (by kernel_rfl) (by kernel_rfl) hS
   .intro aF aoX;iterate 7 (apply V.aj.ok;intros;go_simp;rfl;rfl;go_frame)
    apply V.aj.fin [];intro vs w1 hK hS _;refine aoX.out _ _ ?_;clear aoX;have hu1:=jR hK;have adn:=ap2 _ _ _ Zk ⟨hK.os,hK.tape,hK.output,hK.size,λk hk _=>hK.block k hk (λh=>h)⟩;have IJ:oB Bs jn wr w1:=oB.up hu1 l1 l2;have amU:∀W,(Instr.slice 30 (.slice (some ⟨b,o,none⟩) n c) (some (.int .i64 i)) (some (.int .i64 ((i:Int)+(fw:Int)))) (some (.int .i64 ((i:Int)+(fw:Int))))).run prog W= .ok (.slice (some ⟨b,o+i*5,none⟩) fw fw) W:=λW=>adk W b o n c i fw Bo (by omega)
    obtain⟨fn,tmps,assign,body,hy,hR⟩:=hY _ (i,fw) w1 adn (by rw[Zg];exact hlt);have hpv:Bn b o n (i,fw)= .slice (some ⟨b,o+i*5,none⟩) fw fw:=by
     unfold Bn;simp only[Nat.min_eq_left (show i<=n by omega),Nat.min_eq_left (show fw<=n-i by omega)]
    rw[hpv] at hy
    (try dsimp only at hy)
    clear hpv;obtain⟨-,d1,d2⟩:=hS;have hwr:IntKind.i64.wrap ((i:Int)+(fw:Int))=(i:Int)+(fw:Int):=IntWalk.i64_in _ (by omega);clear hK Zm hY
    gi_wp2
    refine hR.mono ?_;rintro e amV (⟨rfl,ado,jN⟩|⟨rfl,adp⟩)
    .have e2:=jN.Zh d2;have adq:=(Dt.trans IJ).trans jN;have amW:IntKind.i64.wrap ((i:Int)+(q:Int))=(i:Int)+(q:Int):=IntWalk.i64_in _ (by omega)
     gi_wp2
     go_roundw
     case rel=>exact⟨k+1,i+q,by omega,by go_num,by rw[fS.out,Nat.succ_mul],by rw[Zf,<- fS.out,<- Zn.out];exact ado,adq⟩
     case measure=>simp[intOf];omega
    .gi_wp2
     refine dm (kV rfl _ _ _) rfl ?_;exact⟨⟨_,rfl⟩,.inr ⟨_,⟨k+1,by omega,by rw[Zf,<- fS.out,<- Zn.out]⟩,adp⟩⟩
   .kernel_rfl
  .have Zo:k=K:=by omega
   have hin:n<=i:=by rw[fS.out,Zo];exact hK
   have h1:¬(i:Int)<(n:Int):=by omega
   gi_wp2
   go_end0
   exact⟨⟨_,rfl⟩,.inl (by rw[<- Zo];exact Zk)⟩
end
section
open Go.RowKit
theorem adr{base:Nat}{R:Option Addr}{n rc:Nat}{l:List aC}{x:aC}{jZ:Option Addr}{Zp:Nat}{w0 w:World}(hown:ej w base R n rc l)(hv:Rd w w.heap.size 5 jZ 1 (bl [x]))(hn:n<=1000000)(hb:base<=w.heap.size)(ao6:aoV w0 w)(hb0:w0.heap.size<=base):
 Calls prog 239 #[.slice R n rc,.int .i64 n,.slice jZ 1 Zp] w λe w'=>∃R' rc',e= .returned (.slice R' (n+1) rc')/\ej w' base R' (n+1) rc' (l++[x])/\aoV w0 w'/\(∀(g:Nat)(o:Obj),w.heap[g]?=some o->(∀a,R=some a->a.block≠g)->w'.heap[g]?=some o)/\w.heap.size<=w'.heap.size:=by
 have Zm:∀W,(Instr.slice 30 (.slice R n rc) (some (.int .i64 n)) none none).run prog W= .ok (.slice (kH R rc n 5) (n-n) (rc-n)) W:=λW=>Zj W R n rc n (aZ _)
 go_enter func239,ntmps239
 go_wp2_with (at_builtin;refine iF _ AO (news:=bl [x]) hown hv (CI _) (by omega) (by omega) hb rfl rfl rfl rfl ?_;intro v5 ai dN eh om;obtain⟨bZ,dC,rfl⟩:=eL dN)
 have cI:aoV w0 ai:=ao6.grown eh (λg hg=>bQ hb0 (jO hown g hg).1);rw[<- Wq] at dN;go_ret;refine⟨bZ,dC,rfl,dN,cI,λg o hg hne=>?_,eh.size⟩;refine(eh.block g (aB hg) (λe=>?_)).trans hg;cases R with
 |none=>cases e
 |some a=>exact hne a rfl (by injection e with e;exact e.symm)
def Jb(l:List aC)(x:aC):Prop:=okB x=true->mB l x=false->(kD l x=true->(l[eY l x]?).any (λy=>CJ x y)=false)/\(kD l x=false->eY l x=l.length/\∀y∈l++[x],ti x y=false)
theorem Zq{l:List aC}{x:aC}(h:okB x=false\/mB l x=true):dE l x=l:=by unfold dE;rw[if_pos h]
theorem ads{l:List aC}{x:aC}(h:¬(okB x=false\/mB l x=true))(ha:kD l x=true)(hp:Jb l x):dE l x=l:=by
 have h1:okB x=true:=by cases h9:okB x with|true=>rfl|false=>exact absurd (.inl h9) h
 have h2:mB l x=false:=by cases h9:mB l x with|false=>rfl|true=>exact absurd (.inr h9) h
 unfold dE;rw[if_neg h,if_pos ha,if_neg (by rw[(hp h1 h2).1 ha];simp)]
theorem adt{l:List aC}{x:aC}(h:¬(okB x=false\/mB l x=true))(ha:kD l x=false)(hp:Jb l x):eY l x=l.length/\(∀y∈l++[x],ti x y=false)/\dE l x=l++[x]:=by
 have h1:okB x=true:=by cases h9:okB x with|true=>rfl|false=>exact absurd (.inl h9) h
 have h2:mB l x=false:=by cases h9:mB l x with|false=>rfl|true=>exact absurd (.inr h9) h
 obtain⟨h3,h4⟩:=(hp h1 h2).2 ha;refine⟨h3,h4,?_⟩;unfold dE;rw[if_neg h,if_neg (by rw[ha];simp),h3,List.take_length,List.drop_length,List.filter_eq_self.2];intro y hy;rw[h4 y hy];rfl
theorem adu(g:Nat)(x:aC)(w:World)(hg:w.heap[g]?=some (.cells #[.int .i64 x.s.toInt,.int .i64 x.k.toInt,.int .u64 x.t.toNat,.int .u64 x.v.toNat,.int .i64 x.x.toInt] 37 (0,0))):Bm 240 #[.pointer (some ⟨g,0,none⟩)] (λy=>ti x y) w:=by
 intro W y hW;have h0:aoV W (W.alloc (.cells #[.int .i64 y.s.toInt,.int .i64 y.k.toInt,.int .u64 y.t.toNat,.int .u64 y.v.toNat,.int .i64 y.x.toInt] 37)):=(aoV.refl W).alloc _;have hgd:=aH (hW.trans h0) hg;have Cv:=P6 W y (t:=37) rfl _ (aoV.refl _);have dr:=aoU (λW=>Ws x y W);obtain⟨e0,e1,e2,bG,bT⟩:=rK hgd;have f0:=ay hgd 0;have f1:=ay hgd 1;have f2:=ay hgd 2;have f3:=ay hgd 3;have f4:=ay hgd 4
 simp only[List.getElem?_toArray,List.getElem?_cons_zero,List.getElem?_cons_succ] at e0 e1 e2 bG bT;clear hgd;go_enter func240,ntmps240
 go_wp2_with fail;refine(dr.out _).mono ?_;rintro e w1⟨rfl,hu⟩;go_wp2_with fail;go_ret;exact⟨rfl,h0.trans hu⟩
theorem adv{base:Nat}{R:Option Addr}{n rc:Nat}{l:List aC}{x:aC}{w0 w:World}(hown:ej w base R n rc l)(hn:n<=1000000)(hb:base<=w.heap.size)(ao6:aoV w0 w)(hb0:w0.heap.size<=base)(hs:oi l)(hpre:Jb l x):
 Calls prog 175 #[.slice R n rc,Bl x] w λe w'=>∃R' n' rc',e= .returned (.slice R' n' rc')/\ej w' base R' n' rc' (dE l x)/\aoV w0 w':=by
 have bU:=aoU hown.len;have dg:=aoU hs;have Du:=aoU hpre;have hu1:aoV w (w.alloc (.cells #[.int .i64 x.s.toInt,.int .i64 x.k.toInt,.int .u64 x.t.toNat,.int .u64 x.v.toNat,.int .i64 x.x.toInt] 37)):=(aoV.refl w).alloc _;have aL:=bp w (.cells #[.int .i64 x.s.toInt,.int .i64 x.k.toInt,.int .u64 x.t.toNat,.int .u64 x.v.toNat,.int .i64 x.x.toInt] 37);have kA:=hown.up hu1;have I8:=ao6.trans hu1;have n8:=aoU (λW=>Hy x W);have FG:=aoU (λW hW=>Y9 R n rc l x W hW (by omega) hs);have oh:=aoU (λW hW=>Y8 R n rc l x W hW (by omega) hs)
 have Ex:=hu1.size;have hrb:∀a,R=some a->a.block≠w.heap.size:=λa ha e=>by
  rcases hown.2 with⟨h1,-⟩|⟨g,cap,cur,h1,h2,h4,-⟩
  .injection h1 with h1;rw[ha] at h1;cases h1
  .injection h1 with h1;rw[ha] at h1;injection h1 with h1;subst h1;have:=aB h4;simp at e;omega
 have adw:=aoU hrb;clear hs hpre hrb;go_enter func175,ntmps175
 go_wp2_with fail;generalize w.alloc (.cells #[.int .i64 x.s.toInt,.int .i64 x.k.toInt,.int .u64 x.t.toNat,.int .u64 x.v.toNat,.int .i64 x.x.toInt] 37)=wa at *;generalize w.heap.size=br at *;have Bp:∀W,aoV wa W->aoV w0 W/\ej W base R n rc l/\W.heap[br]?=some (.cells #[.int .i64 x.s.toInt,.int .i64 x.k.toInt,.int .u64 x.t.toNat,.int .u64 x.v.toNat,.int .i64 x.x.toInt] 37 (0,0)):=λW hW=>⟨I8.trans hW,kA.up hW,aH hW aL⟩
 refine(n8.out wa).mono ?_;rintro e w1⟨rfl,iU⟩;obtain⟨q,hq⟩:=bB (okB x)
 rw[<- hq];have ji:=aoU hq;clear hq;cases q
 .have hres:=Zq (l:=l) (x:=x) (.inl ji.out.symm);have fJ:=aoU hres;obtain⟨a1,a2,-⟩:=Bp w1 iU;clear hres Bp;go_wp2_with fail;go_ret;rw[fJ.out];exact⟨R,n,rc,rfl,a2,a1⟩
 .obtain⟨a1,a2,a3⟩:=Bp w1 iU;obtain⟨d0,d1,d2,d3,d4⟩:=rK a3;go_wp2_with fail;refine(FG.out w1 a2.rd).mono ?_;rintro e w2⟨rfl,hk2⟩;clear a1 a2 a3 d0 d1 d2 d3 d4;obtain⟨q,hq⟩:=bB (mB l x)
  rw[<- hq];have Ja:=aoU hq;clear hq;obtain⟨a1,a2,a3⟩:=Bp w2 (iU.trans hk2);cases q;case true=>
   have hres:=Zq (l:=l) (x:=x) (.inr Ja.out.symm);have fJ:=aoU hres;clear hres Bp a3;go_wp2_with fail;go_ret;rw[fJ.out];exact⟨R,n,rc,rfl,a2,a1⟩
  have hnot:¬(okB x=false\/mB l x=true):=by rw[<- ji.out,<- Ja.out];simp
  have Zr:=aoU hnot;obtain⟨d0,d1,d2,d3,d4⟩:=rK a3;clear hnot;go_wp2_with fail;refine(oh.out w2 a2.rd).mono ?_;rintro e w3⟨rfl,jN⟩;clear a1 a2 a3 d0 d1 d2 d3 d4;obtain⟨q,hq⟩:=bB (kD l x)
  rw[<- hq];have MY:=aoU hq;clear hq;have hk:=(iU.trans hk2).trans jN;obtain⟨a1,a2,a3⟩:=Bp w3 hk;clear iU hk2 jN;cases q
  .obtain⟨dJ,Zs,hres⟩:=adt Zr.out MY.out.symm Du.out;rw[dJ,<- bU.out];have fJ:=aoU hres;have adx:=aoU Zs;clear hres dJ Zs;have hS:∀W,aoV w3 W->aoV w3 W:=λW h=>h
   go_wp2_with fail;apply V.fQ (λW=>aoV w3 W) (by kernel_rfl) (by kernel_rfl) (λw1 h=>h)
   .intro aF aoX;iterate 2 (apply V.aj.ok;intros;go_simp;rfl;rfl;go_frame)
    iterate 7 (apply V.aj.sL (t:=29) (y:=false);(· rfl);(· intro vs;rfl);(· rfl);simp only[au,Nat.reduceAdd])
    iterate 2 (apply V.aj.ok;intros;go_simp;rfl;rfl;go_frame)
    apply V.aj.fin [];intro vs w1 hK hS _;refine aoX.out _ _ ?_;clear aoX;have oS:=jR hK;clear hS hK a1 a2 a3;obtain⟨a1,a2,a3⟩:=Bp _ (hk.trans oS);obtain⟨d0,d1,d2,d3,d4⟩:=rK a3;have hv:=Rd.Wr w1 [x] #[.int .i64 x.s.toInt,.int .i64 x.k.toInt,.int .u64 x.t.toNat,.int .u64 x.v.toNat,.int .i64 x.x.toInt] 37 rfl rfl
    have hins:=adr (w0:=w0) (x:=x) (Zp:=1) (lu a2 (.cells #[.int .i64 x.s.toInt,.int .i64 x.k.toInt,.int .u64 x.t.toNat,.int .u64 x.v.toNat,.int .i64 x.x.toInt] 37)) hv hn (by have:=hk.trans oS;have:=this.size;simp;omega) (a1.alloc _) hb0;have ady:=aH ((aoV.refl w1).alloc (.cells #[.int .i64 x.s.toInt,.int .i64 x.k.toInt,.int .u64 x.t.toNat,.int .u64 x.v.toNat,.int .i64 x.x.toInt] 37)) a3;have Zt:=aoU hins;clear hins hv;go_wp2_with fail;refine Zt.out.mono ?_;rintro e ai⟨bZ,dC,rfl,dN,cI,hkp,hsz⟩;have Zu:=hkp br _ ady adw.out
    have Fq:=adg 240 #[.pointer (some ⟨br,0,none⟩)] (λy=>ti x y) bZ (n+1) dC (l++[x]) ai dN.rd (by omega) (λ_ _=>rfl) (adu br x ai Zu) adx.out;have IX:=aoU Fq;clear Fq Zt hkp;go_wp2_with fail;refine IX.out.mono ?_;rintro e cH⟨rfl,eZ⟩;go_wp2_with fail;go_ret;rw[fJ.out];exact⟨bZ,n+1,dC,rfl,dN.up eZ,cI.trans eZ⟩
   .kernel_rfl
  .have hres:=ads Zr.out MY.out.symm Du.out;have fJ:=aoU hres;have mX:eY l x<l.length:=by
    rcases Nat.lt_or_ge (eY l x) l.length with h9|h9
    .exact h9
    .have h8:=MY.out;unfold kD at h8;rw[List.getElem?_eq_none h9] at h8;cases h8
   have Zv:CJ x l[eY l x]=false:=by
    have h1:=(Du.out ji.out.symm Ja.out.symm).1 MY.out.symm;rw[dh mX] at h1;exact h1
   have fT:=aoU (λW=>b8 x l[eY l x] W);rw[Zv] at fT;generalize eY l x=p at *;have FB:p<n:=by have:=bU.out;omega
   have amX:(p:Int)<(n:Int):=by omega
   obtain⟨b,o,rfl,hit⟩:=a2.rd.FA (aZ _) FB mX;have hS:∀W,aoV w3 W->(aoV w3 W/\W.cell? ⟨b,o+p*5,none⟩=some (.int .i64 l[p].s.toInt)/\W.cell? ⟨b,o+p*5+1,none⟩=some (.int .i64 l[p].k.toInt)/\W.cell? ⟨b,o+p*5+2,none⟩=some (.int .u64 (l[p].t.toNat:Int))/\W.cell? ⟨b,o+p*5+3,none⟩=some (.int .u64 (l[p].v.toNat:Int))/\W.cell? ⟨b,o+p*5+4,none⟩=some (.int .i64 l[p].x.toInt))/\
    (W.cell? ⟨br,0,none⟩=some (.int .i64 x.s.toInt)/\W.cell? ⟨br,1,none⟩=some (.int .i64 x.k.toInt)/\W.cell? ⟨br,2,none⟩=some (.int .u64 x.t.toNat)/\W.cell? ⟨br,3,none⟩=some (.int .u64 x.v.toNat)/\W.cell? ⟨br,4,none⟩=some (.int .i64 x.x.toInt)):=λW h=>by
    have h9:=aH h a3;exact⟨hit W h,aoW h9 0,aoW h9 1,aoW h9 2,aoW h9 3,aoW h9 4⟩
   clear hit hres a1 a2 a3 Zv;go_wp2_with fail;apply V.fQ _ (by kernel_rfl) (by kernel_rfl) hS
   .intro aF aoX;iterate 2 (apply V.aj.ok;intros;go_simp;rfl;rfl;go_frame)
    iterate 5 (apply V.aj.eI (t:=29);intros;go_simp;rfl;rfl;intro;rfl;go_frame)
    apply V.aj.p7 (t:=29) (.bool false) [];rfl
    .intro vs;rfl
    .intro vs w1 hK hS _ K ah;go_simp;refine(fT.out w1).mono ?_;rintro e w2⟨rfl,aq⟩;exact ah.out _ aq
    simp only[au,Nat.reduceAdd];iterate 1 (apply V.aj.eI (t:=29);intros;go_simp;rfl;rfl;intro;rfl;go_frame)
    iterate 2 (apply V.aj.ok;intros;go_simp;rfl;rfl;go_frame)
    apply V.aj.fin [];intro vs w1 hK hS _;refine aoX.out _ _ ?_;clear aoX;have oS:=jR hK;clear hS hK;obtain⟨a1,a2,a3⟩:=Bp _ (hk.trans oS);go_wp2_with fail;go_ret;rw[fJ.out];exact⟨_,n,rc,rfl,a2,a1⟩
   .kernel_rfl
end
section
open Go.RowKit Go.Shelf
attribute [local go_sem] Oper.semAt_some
theorem adz(A:Option Addr)(n c q:Nat)(hq:1<=q)(w:World):
 Calls prog 129 #[.slice A n c,.int .i64 q] w λe w'=>e= .returned (.func (.func 194) #[] #[.pointer (some ⟨w.heap.size,0,none⟩),.pointer (some ⟨w.heap.size+1,0,none⟩)])/\w'=(w.alloc (.cells #[.slice A n c] 30)).alloc (.cells #[.int .i64 q] 3):=by
 have h1:¬(q:Int)<1:=by omega
 go_enter func129,ntmps129
 go_wp2_with fail;go_ret;exact⟨rfl,rfl⟩
def zD(q n:Nat):Nat:=(n+q-1) / q
theorem adA{q n:Nat}(hq:1<=q):n<=zD q n*q:=by
 unfold zD;have h:=Nat.div_add_mod (n+q-1) q;have h2:=Nat.mod_lt (n+q-1) (show 0<q by omega);rw[Nat.mul_comm] at h;omega
theorem adB{q n k:Nat}(hq:1<=q)(hk:k<zD q n):k*q<n:=by
 unfold zD at hk;have h:=Nat.div_mul_le_self (n+q-1) q;have h2:(k+1)*q<=(n+q-1) / q*q:=Nat.mul_le_mul_right _ hk;rw[Nat.succ_mul] at h2;omega
theorem adC(d:Nat)(hd:1<=d)(Bs jn b o n c q:Nat)(hq1:1<=q)(eM:q<=100000)(hn:n<=1099511627776)(hnc:n<=c)(w:World)(FD:w.cell? ⟨Bs,0,none⟩=some (.slice (some ⟨b,o,none⟩) n c))(FE:w.cell? ⟨jn,0,none⟩=some (.int .i64 q)):
 SeqStopsK Fence.wide d prog 194 #[.pointer (some ⟨Bs,0,none⟩),.pointer (some ⟨jn,0,none⟩)] (λx:Nat×Nat=> #[Bn b o n x]) (oB Bs jn) (λys=>ys=xe q n (zD q n)) (λpre=>∃k,k<=zD q n/\pre=xe q n k) (zD q n) w:=λl J MX W hW hJ _ hY h0=>by
 have c1:=(hW.cell (p:=⟨Bs,0,none⟩) (World.block_lt_of_cell? w ⟨Bs,0,none⟩ FD)).trans FD;have c2:=(hW.cell (p:=⟨jn,0,none⟩) (World.block_lt_of_cell? w ⟨jn,0,none⟩ FE)).trans FE;exact adl d hd l Bs jn b o n c q (zD q n) hq1 eM hn hnc (adA hq1) (λk hk=>adB hq1 hk) J MX hY (λpre W W' h hg=>hJ pre W W' none h hg (λr e=>by cases e)) W c1 c2 h0
theorem Zw(l:List aC)(k:Nat):(bl l).take (k*5)=bl (l.take k):=by
 induction l generalizing k with
 |nil=>simp[bl]
 |cons x l ih=>
  cases k with
  |zero=>simp[bl]
  |succ k=>
   have:=ih k;simp only[bl,List.flatMap_cons,List.take_succ_cons] at this|-;rw[<- this,List.take_append,lV (by simp[itc];omega),show(itc x).length=5 from rfl,show(k+1)*5-5=k*5 by omega]
theorem adD(l:List aC)(k:Nat):(bl l).drop (k*5)=bl (l.drop k):=by
 induction l generalizing k with
 |nil=>simp[bl]
 |cons x l ih=>
  cases k with
  |zero=>simp[bl]
  |succ k=>
   have:=ih k;simp only[bl,List.flatMap_cons,List.drop_succ_cons] at this|-;rw[<- this,List.drop_append,List.drop_of_length_le (by simp[itc];omega),show(itc x).length=5 from rfl,show(k+1)*5-5=k*5 by omega,gY]
theorem Rd.part{w:World}{B b o n s e:Nat}{l:List aC}(h:Rd w B 5 (some ⟨b,o,none⟩) n (bl l))(Rx:s+e<=n):Rd w B 5 (some ⟨b,o+s*5,none⟩) e (bl ((l.drop s).take e)):=by
 have h1:=(h.from_ (k:=s) (cap:=n+1) (by omega) (by omega)).Lh (k:=e) (by omega);rw[if_neg (by omega),adD,Zw] at h1;have bT:(⟨b,o,none⟩:Addr).add (s*5)=⟨b,o+s*5,none⟩:=by unfold Addr.add;split <;>simp_all
 rw[Option.map_some,bT] at h1;exact h1
end
section
open Go.RowKit
theorem adE{l:List aC}{k:Nat}{i:aC}(h:l[k]?=some i):l.getD k qq=i:=by rw[List.getD,h];rfl
theorem Zx(l:List aC)(k:Nat):pL l (k+1)=(pL l k&&(okB (l.getD k qq)&&((k==0||fR (l.getD (k-1) qq) (l.getD k qq)) && !mB (l.take k) (l.getD k qq)))):=by
 unfold pL;rw[List.range_succ,List.all_append];simp
theorem MZ{l:List aC}{k n:Nat}(h:pL l k=false)(hk:k<=n):pL l n=false:=by
 induction n with
 |zero=>
  have:k=0:=by omega
  subst this;exact h
 |succ n ih=>
  by_cases hkn:k=n+1
  .subst hkn;exact h
  .rw[Zx,ih (by omega)];rfl
theorem Rd.gA{w:World}{B n z:Nat}{A:Option Addr}{l:List aC}(h:Rd w B 5 A n (bl l))(hz:z<=n):Rd w B 5 A z (bl (l.take z)):=by
 have:=h.Lh hz
 rwa[Zw] at this
theorem adF(A:Option Addr)(n c:Nat)(l:List aC)(w:World)(hr:Rd w w.heap.size 5 A n (bl l))(hn:n<=1000000)(hnc:n<=c):
 Calls prog 174 #[.slice A n c] w λe w'=>e= .returned (.bool (AP l))/\aoV w w':=by
 have bU:=aoU hr.og;have hst:AP l=pL l l.length:=rfl;have hG:=aoU hst;clear hst;go_enter func174,ntmps174
 go_wp2_with fail;go_loopw[7] (λi wr=>∃k:Nat,i= .int .i64 k/\k<=n/\Hid (pL l k=true)/\aoV w wr) (λi _=>n-(intOf i).toNat)
 case atStart=>exact⟨0,rfl,by omega,rfl,aoV.refl _⟩
 case round=>
  obtain⟨k,rfl,hk,hall,hu⟩:=hrel;by_cases hlt:k<n
  .have bS:k<l.length:=by have:=bU.out;omega
   have P0:=(hr.up hu).gA hk;have adG:oi (l.take k):=Qv k (by omega) hall.out;have Ry:=Zx l k;obtain⟨b,o,x,rfl,hb,hx,c0,c1,c2,c3,c4⟩:=(hr.stay (aZ _) hu).wI hlt;have hgd:l.getD k qq=x:=adE hx;rw[hgd,hall.out,Bool.true_and] at Ry;have Dv:=aoU Ry
   have M0:∀W,aoV (wr.alloc (.cells #[.int .i64 x.s.toInt,.int .i64 x.k.toInt,.int .u64 x.t.toNat,.int .u64 x.v.toNat,.int .i64 x.x.toInt] 37)) W->(aoV (wr.alloc (.cells #[.int .i64 x.s.toInt,.int .i64 x.k.toInt,.int .u64 x.t.toNat,.int .u64 x.v.toNat,.int .i64 x.x.toInt] 37)) W)/\W.cell? ⟨wr.heap.size,0,none⟩=some (.int .i64 x.s.toInt)/\W.cell? ⟨wr.heap.size,1,none⟩=some (.int .i64 x.k.toInt)/\W.cell? ⟨wr.heap.size,2,none⟩=some (.int .u64 x.t.toNat)/\W.cell? ⟨wr.heap.size,3,none⟩=some (.int .u64 x.v.toNat)/\W.cell? ⟨wr.heap.size,4,none⟩=some (.int .i64 x.x.toInt):=λW h=>⟨h,P6 wr x rfl W h⟩
   have hal:aoV wr (wr.alloc (.cells #[.int .i64 x.s.toInt,.int .i64 x.k.toInt,.int .u64 x.t.toNat,.int .u64 x.v.toNat,.int .i64 x.x.toInt] 37)):=(aoV.refl wr).alloc _;have kL:=hr.up (hu.trans hal);have Zy:=P0.up hal;have aQ:=hu.trans hal;have n8:=λW=>Hy x W
   have FG:=λW hW=>Y9 (some ⟨b,o,none⟩) k c (l.take k) x W hW (by omega) adG
   obtain⟨q1,hq1⟩:∃q,q=okB x:=⟨_,rfl⟩
   obtain⟨dQ,zc⟩:∃q,q=mB (l.take k) x:=⟨_,rfl⟩
   rw[<- hq1] at n8;rw[<- zc] at FG;rw[<- hq1,<- zc] at Dv;have iS:(0:Int)<=(k:Int):=by omega
   have z2:(k:Int)<=(c:Int):=by omega
   have z3:k<=c:=by omega
   clear hx hgd Ry hal hq1 zc P0;go_wp2_with fail;clear c0 c1 c2 c3 c4;generalize wr.alloc (.cells #[.int .i64 x.s.toInt,.int .i64 x.k.toInt,.int .u64 x.t.toNat,.int .u64 x.v.toNat,.int .i64 x.x.toInt] 37)=wa at *;generalize wr.heap.size=br at *;cases q1
   .have hf:pL l (k+1)=false:=by rw[Dv.out];rfl
    have dz:=aoU (MZ hf (show k+1<=l.length by omega));clear hf Dv FG;apply V.fQ _ (by kernel_rfl) (by kernel_rfl) M0
    .intro aF aoX;iterate 1 (apply V.aj.ok;intros;go_simp;rfl;rfl;go_frame)
     apply V.aj.call (.bool false) [];rfl
     .intro vs w1 hK hS _ K ah;go_simp;refine(n8 w1).mono ?_;rintro e w2⟨rfl,aq⟩;exact ah.out _ aq
     simp only[au,Nat.reduceAdd];iterate 2 (apply V.aj.ok;intros;go_simp;rfl;rfl;go_frame)
     iterate 3 (apply V.aj.sL (t:=15) (y:=true);(· rfl);(· intro vs;rfl);(· rfl);simp only[au,Nat.reduceAdd])
     iterate 8 (apply V.aj.Px (t:=18);(· rfl);(· intro vs;rfl);simp only[au,Nat.reduceAdd])
     iterate 1 (apply V.aj.sL (t:=15) (y:=true);(· rfl);(· intro vs;rfl);(· rfl);simp only[au,Nat.reduceAdd])
     iterate 2 (apply V.aj.ok;intros;go_simp;rfl;rfl;go_frame)
     iterate 5 (apply V.aj.sL (t:=29) (y:=true);(· rfl);(· intro vs;rfl);(· rfl);simp only[au,Nat.reduceAdd])
     iterate 1 (apply V.aj.ok;intros;go_simp;rfl;rfl;go_frame)
     apply V.aj.fin [];intro vs w1 hK hS _;refine aoX.out _ _ ?_;clear aoX;have aq:=aQ.trans (jR hK);clear hS hK;go_wp2_with fail;go_ret;refine⟨aqg ?_,aq⟩;rw[hG.out,dz.out]
    .kernel_rfl
   .rcases Nat.eq_zero_or_pos k with ug|ug
    .have hf:pL l (k+1)= !dQ:=by rw[Dv.out,ug];rfl
     have dz:=aoU hf;have y1:decide (0<k)=false:=by rw[iO];omega
     clear hf Dv ug;apply V.fQ _ (by kernel_rfl) (by kernel_rfl) M0
     .intro aF aoX;iterate 1 (apply V.aj.ok;intros;go_simp;rfl;rfl;go_frame)
      apply V.aj.call (.bool true) [];rfl
      .intro vs w1 hK hS _ K ah;go_simp;refine(n8 w1).mono ?_;rintro e w2⟨rfl,aq⟩;exact ah.out _ aq
      simp only[au,Nat.reduceAdd];iterate 2 (apply V.aj.ok;intros;go_simp;rfl;rfl;go_frame)
      iterate 3 (apply V.aj.eI (t:=15);intros;go_simp;rfl;rfl;intro;rfl;go_frame)
      iterate 8 (apply V.aj.sL (t:=18) (y:=false);(· rfl);(· intro vs;rfl);(· rfl);simp only[au,Nat.reduceAdd])
      iterate 1 (apply V.aj.eI (t:=15);intros;go_simp;rfl;rfl;intro;rfl;go_frame)
      iterate 2 (apply V.aj.ok;intros;go_simp;rfl;rfl;go_frame)
      iterate 4 (apply V.aj.eI (t:=29);intros;go_simp;rfl;rfl;intro;rfl;go_frame)
      apply V.aj.p7 (t:=29) (.bool dQ) [];rfl
      .intro vs;rfl
      .intro vs w1 hK hS _ K ah;go_simp;refine(FG w1 (Zy.up hS.1)).mono ?_;rintro e w2⟨rfl,aq⟩;exact ah.out _ aq
      simp only[au,Nat.reduceAdd];iterate 1 (apply V.aj.ok;intros;go_simp;rfl;rfl;go_frame)
      apply V.aj.fin [];intro vs w1 hK hS _;refine aoX.out _ _ ?_;clear aoX;have aq:=aQ.trans (jR hK);clear hS hK;cases dQ
      .go_wp2_with fail;go_roundw
       case rel=>
        refine⟨k+1,by go_num,by omega,?_,aq⟩;show pL l (k+1)=true;rw[dz.out];rfl
       case measure=>simp[intOf];omega
      .go_wp2_with fail;go_ret;refine⟨aqg ?_,aq⟩;rw[hG.out,MZ (by rw[dz.out];rfl) (show k+1<=l.length by omega)]
     .kernel_rfl
    .obtain⟨j,hj⟩:=bB (k-1)
     have y1:decide (0<k)=true:=by rw[lw];omega
     have lZ:IntKind.i64.wrap ((k:Int)-1)=(j:Int):=by rw[IntWalk.i64_in _ (by omega)];omega
     have wT:(j:Int)<(n:Int):=by omega
     have oe:j<n:=by omega
     have hjl:j<l.length:=by omega
     obtain⟨b',o',C9,hit⟩:=kL.FA (aZ _) oe hjl;injection C9 with C9;injection C9 with e1 e2;subst e1;subst e2;have hS:∀W,aoV wa W->(aoV wa W/\W.cell? ⟨br,0,none⟩=some (.int .i64 x.s.toInt)/\W.cell? ⟨br,1,none⟩=some (.int .i64 x.k.toInt)/\W.cell? ⟨br,2,none⟩=some (.int .u64 x.t.toNat)/\W.cell? ⟨br,3,none⟩=some (.int .u64 x.v.toNat)/\W.cell? ⟨br,4,none⟩=some (.int .i64 x.x.toInt))/\
      (W.cell? ⟨b,o+j*5,none⟩=some (.int .i64 l[j].s.toInt)/\W.cell? ⟨b,o+j*5+1,none⟩=some (.int .i64 l[j].k.toInt)/\W.cell? ⟨b,o+j*5+2,none⟩=some (.int .u64 (l[j].t.toNat:Int))/\W.cell? ⟨b,o+j*5+3,none⟩=some (.int .u64 (l[j].v.toNat:Int))/\W.cell? ⟨b,o+j*5+4,none⟩=some (.int .i64 l[j].x.toInt)):=λW h=>⟨M0 W h,(hit W h).2⟩
     have vA:l.getD (k-1) qq=l[j]:=by rw[<- hj,oc,dh hjl];rfl
     have oN:=λW=>Hz l[j] x W
     obtain⟨cP,eM⟩:∃q,q=fR l[j] x:=⟨_,rfl⟩
     rw[<- eM] at oN;have hf:pL l (k+1)=(cP && !dQ):=by
      rw[Dv.out,vA,<- eM,show(k==0)=false by rw[beq_eq_false_iff_ne];omega];rfl
     have dz:=aoU hf;clear hf Dv ug eM vA hit hj M0;generalize l[j]=y at *;cases cP
     .apply V.fQ _ (by kernel_rfl) (by kernel_rfl) hS
      .intro aF aoX;iterate 1 (apply V.aj.ok;intros;go_simp;rfl;rfl;go_frame)
       apply V.aj.call (.bool true) [];rfl
       .intro vs w1 hK hS _ K ah;go_simp;refine(n8 w1).mono ?_;rintro e w2⟨rfl,aq⟩;exact ah.out _ aq
       simp only[au,Nat.reduceAdd];iterate 2 (apply V.aj.ok;intros;go_simp;rfl;rfl;go_frame)
       iterate 3 (apply V.aj.eI (t:=15);intros;go_simp;rfl;rfl;intro;rfl;go_frame)
       iterate 6 (apply V.aj.eI (t:=18);intros;go_simp;rfl;rfl;intro;rfl;go_frame)
       apply V.aj.p7 (t:=18) (.bool false) [];rfl
       .intro vs;rfl
       .intro vs w1 hK hS _ K ah;go_simp;refine(oN w1).mono ?_;rintro e w2⟨rfl,aq⟩;exact ah.out _ aq
       simp only[au,Nat.reduceAdd];iterate 1 (apply V.aj.eI (t:=18);intros;go_simp;rfl;rfl;intro;rfl;go_frame)
       iterate 1 (apply V.aj.eI (t:=15);intros;go_simp;rfl;rfl;intro;rfl;go_frame)
       iterate 2 (apply V.aj.ok;intros;go_simp;rfl;rfl;go_frame)
       iterate 5 (apply V.aj.sL (t:=29) (y:=true);(· rfl);(· intro vs;rfl);(· rfl);simp only[au,Nat.reduceAdd])
       iterate 1 (apply V.aj.ok;intros;go_simp;rfl;rfl;go_frame)
       apply V.aj.fin [];intro vs w1 hK hS _;refine aoX.out _ _ ?_;clear aoX;have aq:=aQ.trans (jR hK);clear hS hK;go_wp2_with fail;go_ret;refine⟨aqg ?_,aq⟩;rw[hG.out,MZ (by rw[dz.out];rfl) (show k+1<=l.length by omega)]
      .kernel_rfl
     .apply V.fQ _ (by kernel_rfl) (by kernel_rfl) hS
      .intro aF aoX;iterate 1 (apply V.aj.ok;intros;go_simp;rfl;rfl;go_frame)
       apply V.aj.call (.bool true) [];rfl
       .intro vs w1 hK hS _ K ah;go_simp;refine(n8 w1).mono ?_;rintro e w2⟨rfl,aq⟩;exact ah.out _ aq
       simp only[au,Nat.reduceAdd];iterate 2 (apply V.aj.ok;intros;go_simp;rfl;rfl;go_frame)
       iterate 3 (apply V.aj.eI (t:=15);intros;go_simp;rfl;rfl;intro;rfl;go_frame)
       iterate 6 (apply V.aj.eI (t:=18);intros;go_simp;rfl;rfl;intro;rfl;go_frame)
       apply V.aj.p7 (t:=18) (.bool true) [];rfl
       .intro vs;rfl
       .intro vs w1 hK hS _ K ah;go_simp;refine(oN w1).mono ?_;rintro e w2⟨rfl,aq⟩;exact ah.out _ aq
       simp only[au,Nat.reduceAdd];iterate 1 (apply V.aj.eI (t:=18);intros;go_simp;rfl;rfl;intro;rfl;go_frame)
       iterate 1 (apply V.aj.eI (t:=15);intros;go_simp;rfl;rfl;intro;rfl;go_frame)
       iterate 2 (apply V.aj.ok;intros;go_simp;rfl;rfl;go_frame)
       iterate 4 (apply V.aj.eI (t:=29);intros;go_simp;rfl;rfl;intro;rfl;go_frame)
       apply V.aj.p7 (t:=29) (.bool dQ) [];rfl
       .intro vs;rfl
       .intro vs w1 hK hS _ K ah;go_simp;refine(FG w1 (Zy.up hS.1.1)).mono ?_;rintro e w2⟨rfl,aq⟩;exact ah.out _ aq
       simp only[au,Nat.reduceAdd];iterate 1 (apply V.aj.ok;intros;go_simp;rfl;rfl;go_frame)
       apply V.aj.fin [];intro vs w1 hK hS _;refine aoX.out _ _ ?_;clear aoX;have aq:=aQ.trans (jR hK);clear hS hK;cases dQ
       .go_wp2_with fail;go_roundw
        case rel=>
         refine⟨k+1,by go_num,by omega,?_,aq⟩;show pL l (k+1)=true;rw[dz.out];rfl
        case measure=>simp[intOf];omega
       .go_wp2_with fail;go_ret;refine⟨aqg ?_,aq⟩;rw[hG.out,MZ (by rw[dz.out];rfl) (show k+1<=l.length by omega)]
      .kernel_rfl
  .go_wp2_with fail;go_ret;refine⟨aqg ?_,hu⟩;rw[hG.out,show l.length=k by have:=bU.out;omega,hall.out]
theorem adH(l:List aC)(x:aC):(dE l x).length<=l.length+1:=by
 unfold dE;split;omega
 .split
  .split
   .have:=List.length_filter_le (λy=> !ti x y) (l.set (eY l x) x);rw[List.length_set] at this;omega
   .omega
  .have:=List.length_filter_le (λy=> !ti x y) (l.take (eY l x)++x::l.drop (eY l x));simp only[dG,iu,kT,List.length_drop] at this;omega
theorem Rz:∀(b:List aC)(l:List aC),(b.foldl dE l).length<=l.length+b.length
 | [],l=>by simp
 |x::b,l=>by
  have h1:=Rz b (dE l x);have h2:=adH l x;simp only[List.foldl_cons,iu];omega
def zE(a b:List aC):Prop:=AP a=true/\∀k (hk:k<b.length),Jb ((b.take k).foldl dE a) b[k]
theorem FH(A:Option Addr)(n c:Nat)(a:List aC)(B:Option Addr)(m cb:Nat)(b:List aC)(w:World)(hr:Rd w w.heap.size 5 A n (bl a))(hrb:Rd w w.heap.size 5 B m (bl b))(hn:n<=400000)(hm:m<=400000)(hnc:n<=c)(hpre:zE a b):
 Calls prog 107 #[.slice A n c,.slice B m cb] w λe w'=>∃R k,e= .returned (.slice R k k)/\(∃rc,ej w' w.heap.size R k rc (jk a b))/\aoV w w':=by
 have Zz:=aoU hr.og;have uc:=aoU hrb.og;have hj:jk a b=b.foldl dE a:=by unfold jk;rw[if_pos hpre.1]
 have uA:=aoU hj;have dg:=aoU (abl hpre.1);have Du:=aoU hpre.2;have vB:=aoU (adf A n c a w hr (by omega));have hok:=λW hW=>adF A n c a W hW (by omega) hnc
 rw[hpre.1] at hok;have n8:=aoU hok;clear hj hpre hok;go_enter func107,ntmps107
 go_wp2_with fail;refine vB.out.mono ?_;rintro e w1⟨R0,ZA,rfl,ZB,hu1⟩;go_wp2_with fail;refine(n8.out w1 (hr.up hu1)).mono ?_;rintro e w2⟨rfl,aq⟩;have fL:=hu1.trans aq;have ao5:ej w2 w.heap.size R0 n ZA ((b.take 0).foldl dE a):=ZB.up aq;have adI:=aoU ao5;clear ZB ao5 vB n8;go_wp2_with fail;go_loopw[5,17] (λout i wr=>∃(k j:Nat)(Q:Option Addr)(ip:Nat),i= .int .i64 k/\out= .slice Q j ip/\k<=m/\ej wr w.heap.size Q j ip ((b.take k).foldl dE a)/\aoV w wr) (λ_ i _=>m-(intOf i).toNat)
 case atStart=>exact⟨0,n,R0,ZA,rfl,rfl,by omega,adI.out,fL⟩
 case round=>
  obtain⟨k,j,Q,ip,rfl,rfl,hk,hown,hu⟩:=hrel;by_cases hlt:k<m
  .have bS:k<b.length:=by have:=uc.out;omega
   have hp:=Du.out k bS;obtain⟨b1,o1,x,rfl,fe,hx,c0,c1,c2,c3,c4⟩:=(hrb.stay (aZ _) hu).wI hlt;have hx2:b[k]=x:=by rw[dh bS] at hx;injection hx
   have jF:(b.take (k+1)).foldl dE a=dE ((b.take k).foldl dE a) x:=by
    rw[lU bS,List.foldl_append,hx2];rfl
   rw[hx2] at hp;have kW:=aoU jF;have hal:aoV wr (wr.alloc (.cells #[.int .i64 x.s.toInt,.int .i64 x.k.toInt,.int .u64 x.t.toNat,.int .u64 x.v.toNat,.int .i64 x.x.toInt] 37)):=(aoV.refl wr).alloc _;have hlen:=hown.len;have hfl:=Rz (b.take k) a;rw[kT] at hfl;have hjn:j<=1000000:=by have:=Zz.out;have:=uc.out;omega
   have wu:=adv (x:=x) (w0:=w) (hown.up hal) hjn (by have:=hu.size;simp;omega) (hu.trans hal) (aZ _) (Xj (b.take k) dg.out) hp;have GZ:=aoU wu;clear hx hx2 jF hp hlen hfl wu;go_wp2_with fail;refine GZ.out.mono ?_;rintro e w4⟨Q4,tF,wP,rfl,ts,eO⟩;rw[<- kW.out] at ts;clear GZ kW c0 c1 c2 c3 c4;go_wp2_with fail;go_roundw
   case rel=>exact⟨k+1,tF,Q4,wP,by go_num,rfl,by omega,ts,eO⟩
   case measure=>simp[intOf];omega
  .obtain rfl:k=m:=by omega
   have hall:b.take k=b:=lV (by have:=uc.out;omega);rw[hall,<- uA.out] at hown;have cn:=sH hown;have hlen:=hown.len;have hfl:=Rz b a;rw[<- uA.out] at hfl;have hjn:j<=1000000:=by have:=Zz.out;have:=uc.out;omega
   have cO:=aoU hown;clear hall hlen hfl hown;go_wp2_with fail;refine(Zb Q j ip wr cn hjn).mono ?_;rintro e w4⟨rfl,rfl⟩;go_wp2_with fail;go_ret;exact⟨Q,j,rfl,⟨ip,cO.out⟩,hu⟩
end
end Go.Proofs.YtfghplfgndppfaaGreatDoor
