/- Texts of this claim, joined: Base, Apart, Open, Item, ItemW1, Num, NumW1, NumW2, NumW3, ItemW2, FrameW1, FrameW2, NumLaw, RefW1, RefW2, OpenE, OpenR, BaseQ, NumW4, NumW5, NumW6, OpenI. -/
import Derived.Test.YtfghplfgndppfaaGreatDoorRows
import Derived.WalkKit
import Derived.WalkSpells
import Derived.WalkLawsBesides
import Derived.Lib.Hide
import Derived.Deep.Draws
import Derived.Deep.AppendLies
import Derived.Maps.AppendAt
import Derived.RegionTactic
import Derived.Laws.MakeOwn
import Derived.ProofKit
import Derived.OpenShut
import Derived.ShutString
import Derived.ChangeOld
import Derived.Deep.Slices
import Derived.Deep.Fields
import Derived.Below
import Derived.Maps.RangeWalk
import Derived.Test.YtfghplfgndppfaaGreatDoorZ1
set_option linter.unusedVariables false
set_option linter.unusedSimpArgs false
set_option maxRecDepth 100000
set_option maxHeartbeats 8000000
namespace Go.Proofs.YtfghplfgndppfaaGreatDoor
open Go.Proofs.Tryz
section
open Go.RowKit
abbrev aoV(w w':World):Prop:=Below w.heap.size w w'
theorem aoV.refl(w:World):aoV w w:=Below.refl _ _
theorem aoV.trans{a b c:World}(h:aoV a b)(k:aoV b c):aoV a c:=Below.trans h (k.mono h.size)
theorem aoV.drew{a w:World}(h:aoV a w):aoV a w.drew:=Below.drew h
theorem aoV.alloc{a w:World}(h:aoV a w)(o:Obj):aoV a (w.alloc o):=Below.alloc h h.size o
theorem aoV.grown{a w w':World}{row:Option Nat}(h:aoV a w)(hg:w.grownBy w' row)(hr:∀k,row=some k->a.heap.size<=k):aoV a w':=Below.grown h hg h.size hr
def Rd(w:World)(B sz:Nat)(A:Option Addr)(n:Nat)(xs:List Value):Prop:=
 xs.length=n*sz/\(0<n->∃b o,A=some ⟨b,o,none⟩/\b<B/\∀j u,xs[j]?=some u->w.cell? ⟨b,o+j,none⟩=some u)
section
variable{w w':World}{B B' sz n:Nat}{A:Option Addr}{xs:List Value}
theorem Rd.empty:Rd w B sz A 0 []:=⟨by simp,λh=>absurd h (by omega)⟩
theorem Rd.len(h:Rd w B sz A n xs):xs.length=n*sz:=h.1
theorem Rd.keep(h:Rd w B sz A n xs)(hk:∀p:Addr,p.block<B->w'.cell? p=w.cell? p):Rd w' B sz A n xs:=
 ⟨h.1,λhn=>by
  obtain⟨b,o,e,hb,hc⟩:=h.2 hn;exact⟨b,o,e,hb,λj u hu=>(hk _ hb).trans (hc j u hu)⟩⟩
theorem Rd.mono(h:Rd w B sz A n xs)(hB:B<=B'):Rd w B' sz A n xs:=
 ⟨h.1,λhn=>by
  obtain⟨b,o,e,hb,hc⟩:=h.2 hn;exact⟨b,o,e,by omega,hc⟩⟩
theorem Rd.below(h:Rd w B sz A n xs)(hb:Below B w w'):Rd w' B sz A n xs:=h.keep λ_ hp=>hb.cell hp
theorem Rd.stay(h:Rd w B sz A n xs)(hB:B<=w.heap.size)(hb:aoV w w'):Rd w' B sz A n xs:=h.below (hb.mono hB)
theorem Rd.up(h:Rd w w.heap.size sz A n xs)(hb:aoV w w'):Rd w' w'.heap.size sz A n xs:=(h.below hb).mono hb.size
theorem Rd.drew(h:Rd w B sz A n xs):Rd w.drew B sz A n xs:=h
theorem Rd.alloc(h:Rd w B sz A n xs)(hB:B<=w.heap.size)(o:Obj):Rd (w.alloc o) B sz A n xs:=h.keep λp hp=>World.cell?_alloc_lt w o p (by omega)
theorem Rd.grown(h:Rd w B sz A n xs){row:Option Nat}(hg:w.grownBy w' row)(hB:B<=w.heap.size)(hr:∀g,row=some g->B<=g):Rd w' B sz A n xs:=
 h.keep λp hp=>mv (hg.block p.block (by omega) (λe=>by have:=hr _ e.symm;omega))
theorem Rd.Vj{g o:Nat}(h:Rd w B sz (some ⟨g,o,none⟩) n xs)(hn:0<n){row:Option Nat}(hg:w.grownBy w' row)(hlt:g<w.heap.size)(hne:some g≠row):Rd w' B sz (some ⟨g,o,none⟩) n xs:=
 ⟨h.1,λ_=>by
  obtain⟨b,o',e,hb,hc⟩:=h.2 hn;injection e with e;injection e with e1 e2;subst e1;subst e2;exact⟨g,o,rfl,hb,λj u hu=>(mv (hg.block g hlt hne)).trans (hc j u hu)⟩⟩
theorem Rd.from_(h:Rd w B sz A n xs){k cap:Nat}(hk:k<=n)(hc:n<=cap):Rd w B sz (if cap=k then A else A.map (·.add (k*sz))) (n-k) (xs.drop (k*sz)):=by
 refine⟨by rw[List.length_drop,h.1,Nat.sub_mul],λhn=>?_⟩;obtain⟨b,o,rfl,hb,hcell⟩:=h.2 (by omega);rw[if_neg (by omega)];refine⟨b,o+k*sz,?_,hb,λj u hu=>?_⟩
 .simp only[Option.map_some,Addr.add];split
  .rename_i h0;simp[h0]
  .rfl
 .rw[Nat.add_assoc];exact hcell _ u (by rw[<- hu,List.getElem?_drop])
theorem Rd.Lh(h:Rd w B sz A n xs){k:Nat}(hk:k<=n):Rd w B sz A k (xs.take (k*sz)):=by
 refine⟨by rw[kT,h.1];exact Nat.min_eq_left (Nat.mul_le_mul_right _ hk),λhn=>?_⟩;obtain⟨b,o,rfl,hb,hcell⟩:=h.2 (by omega);refine⟨b,o,rfl,hb,λj u hu=>hcell j u ?_⟩;rw[List.getElem?_take] at hu;split at hu;exact hu
 .cases hu
theorem Rd.own{base:Nat}{e:TypeId}{c:Nat}(h:w.ownsRow base e sz (.slice A n c) n xs):Rd w w.heap.size sz A n xs:=by
 refine⟨h.1,λhn=>?_⟩;rcases h.2 with⟨hv,h0⟩|⟨g,cap,cur,hv,hg,hh,hnc,hcm,hcs,ht⟩
 .omega
 .have hA:A=some ⟨g,0,none⟩:=by injection hv
  subst hA;refine⟨g,0,rfl,(aB hh),λj u hu=>?_⟩;have:=h.cells (g:=g) rfl j u hu;have e:(⟨g,0,none⟩:Addr).add j=⟨g,0+j,none⟩:=by unfold Addr.add;split <;>simp_all
  rwa[e] at this
end
theorem eL{w:World}{base:Nat}{e:TypeId}{sz n:Nat}{v:Value}{xs:List Value}(h:w.ownsRow base e sz v n xs):∃A c,v= .slice A n c:=by
 rcases h.2 with⟨rfl,rfl⟩|⟨g,cap,cur,rfl,_⟩
 .exact⟨none,0,rfl⟩
 .exact⟨_,_,rfl⟩
theorem sH{w:World}{base:Nat}{e:TypeId}{sz n c:Nat}{A:Option Addr}{xs:List Value}(h:w.ownsRow base e sz (.slice A n c) n xs):n<=c:=by
 rcases h.2 with⟨hv,rfl⟩|⟨g,cap,cur,hv,_,_,hn,_⟩
 .exact Nat.zero_le _
 .injection hv with _ _ hc;omega
theorem El{w:World}{base:Nat}{e:TypeId}{sz n c:Nat}{A:Option Addr}{xs:List Value}(h:w.ownsRow base e sz (.slice A n c) n xs)(hn:0<n):∃g,A=some ⟨g,0,none⟩/\base<=g/\g<w.heap.size:=by
 rcases h.2 with⟨hv,rfl⟩|⟨g,cap,cur,hv,hb,hg,_⟩
 .omega
 .injection hv with hA _ _;exact⟨g,hA,hb,(aB hg)⟩
theorem el{w w':World}{base:Nat}{e:TypeId}{sz n:Nat}{v:Value}{xs:List Value}(h:w.ownsRow base e sz v n xs)(hu:aoV w w'):w'.ownsRow base e sz v n xs:=by
 refine⟨h.1,?_⟩;rcases h.2 with h2|⟨g,cap,cur,hv,hg,hh,r⟩
 .exact .inl h2
 .exact .inr ⟨g,cap,cur,hv,hg,(fP hu hh),r⟩
theorem jP{w:World}{base base':Nat}{e:TypeId}{sz n:Nat}{v:Value}{xs:List Value}(h:w.ownsRow base e sz v n xs)(hb:base'<=base):w.ownsRow base' e sz v n xs:=by
 refine⟨h.1,?_⟩;rcases h.2 with h2|⟨g,cap,cur,hv,hg,r⟩
 .exact .inl h2
 .exact .inr ⟨g,cap,cur,hv,by omega,r⟩
def bv(b:UInt8):Value:= .int .u8 b.toNat
def Cf(n:UInt64):Value:= .int .u64 n.toNat
def iv(n:Int64):Value:= .int .i64 n.toInt
def cu(l:List UInt8):List Value:=l.map bv
def p6(l:List UInt64):List Value:=l.map Cf
theorem Em(l:List UInt8):(cu l).length=l.length:=by simp[cu]
theorem Vk(l:List UInt64):(p6 l).length=l.length:=by simp[p6]
theorem yG(a b:List UInt8):cu (a++b)=cu a++cu b:=by simp[cu]
theorem Vl(a b:List UInt64):p6 (a++b)=p6 a++p6 b:=by simp[p6]
theorem sI(l:List UInt8):∀u∈cu l,u.oneCell'=true:=by
 intro u hu;simp only[cu,List.mem_map] at hu;obtain⟨b,_,rfl⟩:=hu;rfl
theorem Vm(l:List UInt64):∀u∈p6 l,u.oneCell'=true:=by
 intro u hu;simp only[p6,List.mem_map] at hu;obtain⟨b,_,rfl⟩:=hu;rfl
theorem En(n:Nat):bv (UInt8.ofNat n)= .int .u8 ((n%256:Nat):Int):=by simp[bv]
theorem Vn(n:Nat):Cf (UInt64.ofNat n)= .int .u64 ((n%18446744073709551616:Nat):Int):=by simp[Cf]
structure jr(P:Program)(t e:TypeId)(sz bytes:Nat):Prop where
 ut:P.underlying t=some (.slice e)
 inf:∃i z,P.info? e=some i/\i.zero=some z/\i.size=sz/\i.bytes=bytes/\z.cells.size=sz
 pos:0<sz
theorem jr.mk'{P:Program}{t e:TypeId}{sz bytes:Nat}{z:Value}(h:P.underlying t=some (.slice e))(hi:(P.info? e).map (λi=>(i.zero,i.size,i.bytes))=some (some z,sz,bytes))(hz:z.cells.size=sz)(hs:0<sz):jr P t e sz bytes:=by
 obtain⟨i,h1,h2,h3,h4⟩:=info_parts hi;exact⟨h,⟨i,z,h1,h2,h3,h4,hz⟩,hs⟩
section
variable{P:Program}(w:World)
theorem KW{t e:TypeId}{sz bytes:Nat}(hT:jr P t e sz bytes)(ty:TypeId){base n B m c:Nat}{v:Value}{xs news:List Value}{A:Option Addr}(hown:w.ownsRow base e sz v n xs)(hr:Rd w B sz A m news)(h1:∀u∈news,u.oneCell'=true)(hb:n+m<=4611686018427387903)(hbytes:(n+m)*bytes<=140737488355328)(hbase:base<=w.heap.size):
 ∃v' w',(Builtin.append_ #[t,t] ty #[v,.slice A m c]).run P w= .ok v' w'/\w'.ownsRow base e sz v' (n+m) (xs++news)/\w.grownBy w' v.ownBlock/\
  (v'.ownBlock=v.ownBlock\/v'.ownBlock=some w.heap.size):=by
 obtain⟨ht,⟨i,z,hi,hz,hsize,hby,hzs⟩,hsz⟩:=hT;have h63:n+m<=maxLen:=by simp only[maxLen];omega
 rcases A with _|ad
 .have hm:m=0:=by
   rcases Nat.eq_zero_or_pos m with h0|h0
   .exact h0
   .obtain⟨b,o,h,_⟩:=hr.2 h0;cases h
  subst hm;have hn:news= []:=List.eq_nil_of_length_eq_zero (by simpa using hr.1);subst hn;refine⟨v,w,?_,by simpa using hown,⟨rfl,rfl,rfl,aZ _,λ_ _ _=>rfl⟩,.inl rfl⟩;rcases hown.2 with⟨rfl,rfl⟩|⟨g,cap,cur,rfl,_,_,hnc,_⟩
  .simp[Builtin.append_,run_underlying ht,sizeOf,typeInfo,hi,Builtin.lenOf,Builtin.firstCells]
  .simp[Builtin.append_,run_underlying ht,sizeOf,typeInfo,hi,Builtin.lenOf,Builtin.firstCells,hnc,storeCells]
 .have hcells:∀j u,news[j]?=some u->w.cell? (ad.add j)=some u:=by
   intro j u hu;rcases Nat.eq_zero_or_pos m with h0|h0
   .subst h0;have hn:news= []:=List.eq_nil_of_length_eq_zero (by simpa using hr.1);subst hn;simp at hu
   .obtain⟨b,o,h,_,hc⟩:=hr.2 h0;injection h with h;subst h;have e:(⟨b,o,none⟩:Addr).add j=⟨b,o+j,none⟩:=by unfold Addr.add;split <;>simp_all
    rw[e];exact hc j u hu
  obtain⟨v',w',hrun,h2,h3,_,h5⟩:=run_append_own_at (P:=P) w base t ty e i z sz bytes ht hi hz hsize hby hzs hsz v n xs hown ad m c news hr.1 hcells h1 h63 hbytes hbase;exact⟨v',w',hrun,h2,h3,h5⟩
theorem uP{o:Oper}{a:Act}{K:Act->World->Prop}{Q:Exit->Act->World->Prop}(s x:Operand){t e:TypeId}{sz bytes:Nat}(hT:jr P t e sz bytes)(ho:o.op= .call { callee:= .builtin .append,args:= #[s,x],argTypes:= #[t,t] }){base n B m c:Nat}{v:Value}{xs news:List Value}{A:Option Addr}(hs:a.eval s=v)(hx:a.eval x= .slice A m c)(hown:w.ownsRow base e sz v n xs)(hr:Rd w B sz A m news)(h1:∀u∈news,u.oneCell'=true)(hb:n+m<=4611686018427387903)(hbytes:(n+m)*bytes<=140737488355328)(hbase:base<=w.heap.size)(h:∀v' w',w'.ownsRow base e sz v' (n+m) (xs++news)->w.grownBy w' v.ownBlock->(v'.ownBlock=v.ownBlock\/v'.ownBlock=some w.heap.size)->K (a.put o.dst v') w'):o.wp P a w K Q:=by
 obtain⟨v',w',hrun,h2,h3,h4⟩:=KW (P:=P) w hT o.type (c:=c) hown hr h1 hb hbytes hbase;unfold Oper.wp execOp;simp only[ho,resolve,invoke,builtin,Sem.run_bind,Sem.run_pure,Result.andThen_ok,List.map_toArray,List.map_cons,List.map_nil,hs,hx,hrun];exact h v' w' h2 h3 h4
theorem iF{ops:Array Oper}{rest:List Oper}{o:Oper}{a:Act}{Q:Exit->Act->World->Prop}{s x:Operand}{t e:TypeId}{sz bytes:Nat}(hT:jr P t e sz bytes){base n B m c:Nat}{v:Value}{xs news:List Value}{A:Option Addr}(hown:w.ownsRow base e sz v n xs)(hr:Rd w B sz A m news)(h1:∀u∈news,u.oneCell'=true)(hb:n+m<=4611686018427387903)(hbytes:(n+m)*bytes<=140737488355328)(hbase:base<=w.heap.size)(hgd:o.guard=none)(ho:o.op= .call { callee:= .builtin .append,args:= #[s,x],argTypes:= #[t,t] })(hs:a.eval s=v)(hx:a.eval x= .slice A m c)(h:∀v' w',w'.ownsRow base e sz v' (n+m) (xs++news)->w.grownBy w' v.ownBlock->(v'.ownBlock=v.ownBlock\/v'.ownBlock=some w.heap.size)->wpList P ops Q rest (a.put o.dst v') w'):wpList P ops Q (o::rest) a w:=
 wpList_plain hgd λ_ hK=>uP w s x hT ho hs hx hown hr h1 hb hbytes hbase λv' w' h2 h3 h4=>hK _ _ (h v' w' h2 h3 h4)
end
def kH(A:Option Addr)(c k sz:Nat):Option Addr:=if c=k then A else A.map (·.add (k*sz))
theorem Rd.cq{w:World}{base:Nat}{e:TypeId}{sz n:Nat}{v:Value}{xs:List Value}(h:w.ownsRow base e sz v n xs):∃A c,v= .slice A n c/\Rd w w.heap.size sz A n xs:=by
 rcases h.2 with⟨rfl,rfl⟩|⟨g,cap,cur,rfl,_⟩
 .exact⟨none,0,rfl,Rd.own h⟩
 .exact⟨_,_,rfl,Rd.own h⟩
theorem qP:jr prog 101 5 1 1:=jr.mk' underlying101 (z:= .int .u8 0) (by kernel_rfl) rfl (by decide)
def fG(w:World)(base:Nat)(A:Option Addr)(n c:Nat)(l:List UInt8):Prop:=w.ownsRow base 5 1 (.slice A n c) n (cu l)
section
variable{w w':World}{base n c:Nat}{A:Option Addr}{l:List UInt8}{q:List UInt64}
theorem fG.rd(h:fG w base A n c l):Rd w w.heap.size 1 A n (cu l):=Rd.own h
theorem fG.len(h:fG w base A n c l):n=l.length:=by have:=h.1;simp only[Em] at this;omega
theorem fG.up(h:fG w base A n c l)(hu:aoV w w'):fG w' base A n c l:=el h hu
theorem fG.cap(h:fG w base A n c l):n<=c:=sH h
theorem Rd.gO(h:Rd w base 1 A n (cu l)):n=l.length:=by have:=h.1;simp only[Em] at this;omega
theorem Rd.GM(h:Rd w base 1 A n (p6 q)):n=q.length:=by have:=h.1;simp only[Vk] at this;omega
theorem Rd.byte(h:Rd w base 1 A n (cu l)){k:Nat}(hk:k<n):
 ∃b o,A=some ⟨b,o,none⟩/\b<base/\w.cell? ⟨b,o+k,none⟩=some (.int .u8 ((l.getD k 0).toNat:Int)):=by
 obtain⟨b,o,e,hb,hc⟩:=h.2 (by omega);have hl:k<l.length:=by have:=h.gO;omega
 exact⟨b,o,e,hb,hc k _ (by simp[cu,bv,hl,List.getD])⟩
theorem Rd.num(h:Rd w base 1 A n (p6 q)){k:Nat}(hk:k<n):
 ∃b o,A=some ⟨b,o,none⟩/\b<base/\w.cell? ⟨b,o+k,none⟩=some (.int .u64 ((q.getD k 0).toNat:Int)):=by
 obtain⟨b,o,e,hb,hc⟩:=h.2 (by omega);have hl:k<q.length:=by have:=h.GM;omega
 exact⟨b,o,e,hb,hc k _ (by simp[p6,Cf,hl,List.getD])⟩
def Eo(l:List Nat):List Value:=l.map λ(n:Nat)=>Value.int .u64 n
theorem CF(l:List Nat):(Eo l).length=l.length:=by simp[Eo]
theorem Rd.nat{q:List Nat}(h:Rd w base 1 A n (Eo q)){k:Nat}(hk:k<n):
 ∃b o,A=some ⟨b,o,none⟩/\b<base/\w.cell? ⟨b,o+k,none⟩=some (.int .u64 ((q.getD k 0:Nat):Int)):=by
 obtain⟨b,o,e,hb,hc⟩:=h.2 (by omega);have hl:k<q.length:=by have:=h.1;rw[CF] at this;omega
 exact⟨b,o,e,hb,hc k _ (by simp[Eo,hl,List.getD])⟩
theorem Rd.GN(h:Rd w base 1 A n (cu l)){k cap:Nat}(hk:k<=n)(hc:n<=cap):Rd w base 1 (kH A cap k 1) (n-k) (cu (l.drop k)):=by
 have:=h.from_ hk hc;rw[Nat.mul_one] at this;simpa[cu,List.map_drop,kH] using this
theorem Rd.Pe(h:Rd w base 1 A n (cu l)){k:Nat}(hk:k<=n):Rd w base 1 A k (cu (l.take k)):=by
 have:=h.Lh hk;simpa[cu,List.map_take] using this
end
theorem Vo(w:World):(sizeOf 5).run prog w= .ok 1 w:=by
 obtain⟨_,⟨i,z,hi,_,hs,_⟩,_⟩:=qP;simp[sizeOf,typeInfo,hi,hs]
theorem Li:prog.elem 101=5:=by kernel_rfl
theorem apo(w:World)(A:Option Addr)(n c:Nat)(kl:IntKind)(l:Int)(h0:0<=l)(h1:l<=n):
 (Instr.slice 101 (.slice A n c) (some (.int kl l)) none none).run prog w= .ok (.slice (kH A c l.toNat 1) (n-l.toNat) (c-l.toNat)) w:=by
 rw[run_slice_l w 101 A n c (by rw[Li];exact underlying101) kl l h0 h1,Li,Vo];simp[sliced,kH]
theorem cv{w:World}{B n:Nat}{A:Option Addr}{l:List UInt8}(c:Nat)(h:Rd w B 1 A n (cu l)):(convert 101 9 (.slice A n c)).run prog w= .ok (.string ⟨l.toArray⟩) w:=by
 have hn:=h.gO;subst hn;by_cases h0:0<l.length
 .obtain⟨b,o,rfl,_,hc⟩:=h.2 h0;refine run_convert_bytes_back w _ _ _ _ c l underlying101 underlying5 underlying9 (λj hj=>?_);have e:(⟨b,o,none⟩:Addr).add j=⟨b,o+j,none⟩:=by unfold Addr.add;split <;>simp_all
  rw[e];exact hc j _ (by simp[cu,bv,hj])
 .have hl:l= []:=List.eq_nil_of_length_eq_zero (by omega);subst hl;cases A with
  |none=>exact run_convert_bytes_nil w _ _ underlying101 underlying5 0 c _ underlying9
  |some a=>exact run_convert_bytes_back w _ _ _ a c [] underlying101 underlying5 underlying9 (λj hj=>by simp at hj)
theorem Rd.made(w:World)(cs:Array Value)(t:TypeId){sz n:Nat}(hn:cs.size=n*sz):Rd (w.alloc (.cells cs t)) (w.alloc (.cells cs t)).heap.size sz (some ⟨w.heap.size,0,none⟩) n cs.toList:=by
 refine⟨by simpa using hn,λ_=>⟨w.heap.size,0,rfl,by simp,λj v hj=>?_⟩⟩;rw[World.cell?_alloc_at (w:=w) cs t _ _ rfl];simpa using hj
theorem Rd.box(w:World)(u:Value)(t:TypeId):Rd (w.alloc (.cells #[u] t)) (w.alloc (.cells #[u] t)).heap.size 1 (some ⟨w.heap.size,0,none⟩) 1 [u]:=Rd.made w #[u] t rfl
theorem Rd.Pf(w:World){u:Value}(t:TypeId){b:UInt8}(h:u=bv b):Rd (w.alloc (.cells #[u] t)) (w.alloc (.cells #[u] t)).heap.size 1 (some ⟨w.heap.size,0,none⟩) 1 (cu [b]):=by subst h;exact Rd.box w _ t
theorem Rd.Vp(w:World){u:Value}(t:TypeId){b:UInt64}(h:u=Cf b):Rd (w.alloc (.cells #[u] t)) (w.alloc (.cells #[u] t)).heap.size 1 (some ⟨w.heap.size,0,none⟩) 1 (p6 [b]):=by subst h;exact Rd.box w _ t
theorem Rd.lit(w:World)(l:List UInt8)(cs:Array Value)(t:TypeId)(h:cs.toList=cu l):Rd (w.alloc (.cells cs t)) (w.alloc (.cells cs t)).heap.size 1 (some ⟨w.heap.size,0,none⟩) l.length (cu l):=by
 rw[<- h];exact Rd.made w cs t (by have:=congrArg List.length h;simpa[cu] using this)
theorem Rd.Lj(w:World)(l:List UInt8)(cs:Array Value)(t:TypeId){g:Nat}(hg:w.heap.size=g)(h:cs.toList=cu l):Rd (w.alloc (.cells cs t)) (w.alloc (.cells cs t)).heap.size 1 (some ⟨g,0,none⟩) l.length (cu l):=by subst hg;exact Rd.lit w l cs t h
def byteOf(z:Int):UInt8:=UInt8.ofNat (z%256).toNat
theorem Ph(z:Int):bv (byteOf z)= .int .u8 (z%256):=by
 unfold byteOf;rw[En];congr 1;omega
structure lX where
 A:Option Addr
 n:Nat
 c:Nat
 l:List UInt8
def lX.v(p:lX):Value:= .slice p.A p.n p.c
end
section
open Go.ChangeShapes Go.WideShapes Go.ChangeAt Go.RowKit
theorem W3:ownKnob prog.godebug=none:=by kernel_rfl
theorem La{x:Int}(h:(Lit.int .i64 x).wf=true): -9223372036854775808<=x/\x<=9223372036854775807:=by
 simpa[Lit.wf,IntKind.min,IntKind.max,IntKind.signed,IntKind.bits] using h
def Wp(w:World)(A:Option Addr)(n c:Nat)(l:List UInt8):Prop:=Rd w w.heap.size 1 A n (cu l)/\n<=c/\c<=9223372036854775807
section
variable{H:Type}{enc:TypeId×Value->H}{W:World}{sp:Nat->Bool}{a:Option Addr}{len cap:Nat}{d:DataW H}{p:List MemPlace}
end
end
section
open Go.ChangeShapes Go.WideShapes Go.ChangeAt Go.RowKit Go.Deep
structure aC where
 s:Int64
 k:Int64
 t:UInt64
 v:UInt64
 x:Int64
def itc(i:aC):List Value:= [.int .i64 i.s.toInt,.int .i64 i.k.toInt,.int .u64 i.t.toNat,.int .u64 i.v.toNat,.int .i64 i.x.toInt]
def bl(l:List aC):List Value:=l.flatMap itc
theorem P5(l:List aC):(bl l).length=l.length*5:=by
 induction l with
 |nil=>rfl
 |cons i l ih=>simp only[bl,List.flatMap_cons,dG,iu] at *;rw[ih];simp[itc];omega
theorem Wq(a b:List aC):bl (a++b)=bl a++bl b:=by simp[bl]
theorem CI(l:List aC):∀u∈bl l,u.oneCell'=true:=by
 intro u hu;simp only[bl,List.mem_flatMap] at hu;obtain⟨i,_,h⟩:=hu;simp only[itc,List.mem_cons,List.not_mem_nil,or_false] at h;rcases h with rfl|rfl|rfl|rfl|rfl <;>rfl
theorem _v(l:List aC){k:Nat}(hk:k<l.length){j:Nat}(hj:j<5):(bl l)[k*5+j]?=(itc l[k])[j]?:=by
 induction l generalizing k with
 |nil=>simp at hk
 |cons i l ih=>
  cases k with
  |zero=>
   simp only[bl,List.flatMap_cons,Nat.zero_mul,dV,List.getElem_cons_zero];rw[List.getElem?_append_left (by simpa[itc] using hj)]
  |succ k=>
   have hk':k<l.length:=by simpa using hk
   have:=ih hk';simp only[bl,List.flatMap_cons,List.getElem_cons_succ] at this|-;rw[List.getElem?_append_right (by simp[itc];omega),<- this]
   congr 1;simp[itc];omega
theorem LN{w:World}{B g:Nat}{i:aC}(h:Rd w B 5 (some ⟨g,0,none⟩) 1 (itc i)):
 w.cell? ⟨g,0,none⟩=some (.int .i64 i.s.toInt)/\w.cell? ⟨g,1,none⟩=some (.int .i64 i.k.toInt)/\w.cell? ⟨g,2,none⟩=some (.int .u64 i.t.toNat)/\w.cell? ⟨g,3,none⟩=some (.int .u64 i.v.toNat)/\w.cell? ⟨g,4,none⟩=some (.int .i64 i.x.toInt):=by
 obtain⟨b,o,e,_,hc⟩:=h.2 (by omega);injection e with e;injection e with e1 e2;subst e1;subst e2;exact⟨by simpa using hc 0 _ rfl,by simpa using hc 1 _ rfl,by simpa using hc 2 _ rfl,by simpa using hc 3 _ rfl,by simpa using hc 4 _ rfl⟩
theorem Rd.og{w:World}{B n:Nat}{A:Option Addr}{l:List aC}(h:Rd w B 5 A n (bl l)):n=l.length:=by have:=h.1;rw[P5] at this;omega
theorem Rd.wI{w:World}{B n:Nat}{A:Option Addr}{l:List aC}(h:Rd w B 5 A n (bl l)){k:Nat}(hk:k<n):
 ∃b o i,A=some ⟨b,o,none⟩/\b<B/\l[k]?=some i/\w.cell? ⟨b,o+k*5,none⟩=some (.int .i64 i.s.toInt)/\w.cell? ⟨b,o+k*5+1,none⟩=some (.int .i64 i.k.toInt)/\w.cell? ⟨b,o+k*5+2,none⟩=some (.int .u64 i.t.toNat)/\w.cell? ⟨b,o+k*5+3,none⟩=some (.int .u64 i.v.toNat)/\w.cell? ⟨b,o+k*5+4,none⟩=some (.int .i64 i.x.toInt):=by
 have hl:=h.og;obtain⟨b,o,e,hb,hc⟩:=h.2 (by omega);have bS:k<l.length:=by omega
 have got:∀j u,j<5->(itc l[k])[j]?=some u->w.cell? ⟨b,o+k*5+j,none⟩=some u:=λj u hj hu=>by
  rw[Nat.add_assoc];exact hc _ _ ((_v l bS hj).trans hu)
 exact⟨b,o,l[k],e,hb,dh bS,got 0 _ (by omega) rfl,got 1 _ (by omega) rfl,got 2 _ (by omega) rfl,got 3 _ (by omega) rfl,got 4 _ (by omega) rfl⟩
theorem Rd.item(w:World)(i:aC)(t:TypeId):Rd (w.alloc (.cells #[.int .i64 i.s.toInt,.int .i64 i.k.toInt,.int .u64 i.t.toNat,.int .u64 i.v.toNat,.int .i64 i.x.toInt] t)) (w.heap.size+1) 5 (some ⟨w.heap.size,0,none⟩) 1 (itc i):=by
 have:=Rd.made (sz:=5) (n:=1) w #[.int .i64 i.s.toInt,.int .i64 i.k.toInt,.int .u64 i.t.toNat,.int .u64 i.v.toNat,.int .i64 i.x.toInt] t rfl;rw[fF] at this;exact this
theorem P6(w:World)(i:aC){t:TypeId}{W:World}(hW:w.alloc (.cells #[.int .i64 i.s.toInt,.int .i64 i.k.toInt,.int .u64 i.t.toNat,.int .u64 i.v.toNat,.int .i64 i.x.toInt] t)=W):
 ∀w1,aoV W w1->w1.cell? ⟨w.heap.size,0,none⟩=some (.int .i64 i.s.toInt)/\w1.cell? ⟨w.heap.size,1,none⟩=some (.int .i64 i.k.toInt)/\w1.cell? ⟨w.heap.size,2,none⟩=some (.int .u64 i.t.toNat)/\w1.cell? ⟨w.heap.size,3,none⟩=some (.int .u64 i.v.toNat)/\w1.cell? ⟨w.heap.size,4,none⟩=some (.int .i64 i.x.toInt):=λw1 hu1=>by
 have h5:=Rd.item w i t;rw[hW] at h5;exact LN ((h5.mono (B':=W.heap.size) (by rw[<- hW];simp)).stay (aZ _) hu1)
theorem Rd.Wr(w:World)(l:List aC)(cs:Array Value)(t:TypeId){g:Nat}(hg:w.heap.size=g)(h:cs.toList=bl l):Rd (w.alloc (.cells cs t)) (w.alloc (.cells cs t)).heap.size 5 (some ⟨g,0,none⟩) l.length (bl l):=by
 subst hg;rw[<- h];exact Rd.made w cs t (by have:=congrArg List.length h;rw[P5] at this;simpa using this)
section
variable{H:Type}{enc:TypeId×Value->H}{P:Program}{w:World}{base:Nat}{spare:Nat->Bool}{held:Bool}
end
end
section
open Go.RowKit
def LO(s k:Int)(t v:Nat)(x:Int):Bool:=decide (0<=s/\s<=255/\1<=v/\v<=281474976710656/\(k=1/\t=0/\x=0\/k=2/\t<=1099511627776))
def Hx(s k:Int)(t:Nat)(s' k':Int)(t':Nat):Bool:=decide (s<s'\/s=s'/\(k<k'\/k=k'/\t<t'))
def LP(v:Nat)(x:Int)(v':Nat)(x':Int):Bool:=decide (v'<v\/v=v'/\x'<x)
def LQ(s k:Int)(v:Nat)(s' k':Int)(v':Nat):Bool:=decide (k=1/\k'=2/\s=s'/\v'<=v)
def okB(i:aC):Bool:=LO i.s.toInt i.k.toInt i.t.toNat i.v.toNat i.x.toInt
def fR(a b:aC):Bool:=Hx a.s.toInt a.k.toInt a.t.toNat b.s.toInt b.k.toInt b.t.toNat
def CJ(a b:aC):Bool:=LP a.v.toNat a.x.toInt b.v.toNat b.x.toInt
def ti(a b:aC):Bool:=LQ a.s.toInt a.k.toInt a.v.toNat b.s.toInt b.k.toInt b.v.toNat
def xX(a b:aC):Bool:= !fR a b && !fR b a
theorem AE{a b:Bool}(h:a=b):Ending.returned (.bool a)= .returned (.bool b):=by rw[h]
theorem qT(s k:Int)(t v:Nat)(x:Int)(w:World):
 Calls prog 169 #[.agg #[.int .i64 s,.int .i64 k,.int .u64 t,.int .u64 v,.int .i64 x]] w λe w'=>e= .returned (.bool (LO s k t v x))/\aoV w w':=by
 have hs:LO s k t v x=decide (0<=s/\s<=255/\1<=v/\v<=281474976710656/\(k=1/\t=0/\x=0\/k=2/\t<=1099511627776)):=rfl;have dg:=aoU hs;clear hs;go_enter func169,ntmps169
 go_wp2
 all_goals
  go_ret;refine⟨AE ?_,(aoV.refl w).alloc _⟩;rw[dg.out,Bool.eq_iff_iff];clear dg;first|omega|(simp at *;done)|(simp at *;omega)
theorem gR(s k:Int)(t v:Nat)(x:Int)(s' k':Int)(t' v':Nat)(x':Int)(w:World):
 Calls prog 163 #[.agg #[.int .i64 s,.int .i64 k,.int .u64 t,.int .u64 v,.int .i64 x],.agg #[.int .i64 s',.int .i64 k',.int .u64 t',.int .u64 v',.int .i64 x']] w λe w'=>e= .returned (.bool (Hx s k t s' k' t'))/\aoV w w':=by
 have hs:Hx s k t s' k' t'=decide (s<s'\/s=s'/\(k<k'\/k=k'/\t<t')):=rfl;have dg:=aoU hs;clear hs;go_enter func163,ntmps163
 go_wp2
 all_goals
  go_ret;refine⟨AE ?_,((aoV.refl w).alloc _).alloc _⟩;rw[dg.out,Bool.eq_iff_iff];clear dg;first|omega|(simp at *;done)|(simp at *;omega)
theorem Kk(s k:Int)(t v:Nat)(x:Int)(s' k':Int)(t' v':Nat)(x':Int)(w:World):
 Calls prog 166 #[.agg #[.int .i64 s,.int .i64 k,.int .u64 t,.int .u64 v,.int .i64 x],.agg #[.int .i64 s',.int .i64 k',.int .u64 t',.int .u64 v',.int .i64 x']] w λe w'=>e= .returned (.bool (LP v x v' x'))/\aoV w w':=by
 have hs:LP v x v' x'=decide (v'<v\/v=v'/\x'<x):=rfl;have dg:=aoU hs;clear hs;go_enter func166,ntmps166
 go_wp2
 all_goals
  go_ret;refine⟨AE ?_,((aoV.refl w).alloc _).alloc _⟩;rw[dg.out,Bool.eq_iff_iff];clear dg;first|omega|(simp at *;done)|(simp at *;omega)
theorem s8(s k:Int)(t v:Nat)(x:Int)(s' k':Int)(t' v':Nat)(x':Int)(w:World):
 Calls prog 241 #[.agg #[.int .i64 s,.int .i64 k,.int .u64 t,.int .u64 v,.int .i64 x],.agg #[.int .i64 s',.int .i64 k',.int .u64 t',.int .u64 v',.int .i64 x']] w λe w'=>e= .returned (.bool (LQ s k v s' k' v'))/\aoV w w':=by
 have hs:LQ s k v s' k' v'=decide (k=1/\k'=2/\s=s'/\v'<=v):=rfl;have dg:=aoU hs;clear hs;go_enter func241,ntmps241
 go_wp2
 all_goals
  go_ret;refine⟨AE ?_,((aoV.refl w).alloc _).alloc _⟩;rw[dg.out,Bool.eq_iff_iff];clear dg;first|omega|(simp at *;done)|(simp at *;omega)
theorem Hy(i:aC)(w:World):Calls prog 169 #[.agg #[.int .i64 i.s.toInt,.int .i64 i.k.toInt,.int .u64 i.t.toNat,.int .u64 i.v.toNat,.int .i64 i.x.toInt]] w λe w'=>e= .returned (.bool (okB i))/\aoV w w':=qT _ _ _ _ _ w
theorem Hz(i j:aC)(w:World):Calls prog 163 #[.agg #[.int .i64 i.s.toInt,.int .i64 i.k.toInt,.int .u64 i.t.toNat,.int .u64 i.v.toNat,.int .i64 i.x.toInt],.agg #[.int .i64 j.s.toInt,.int .i64 j.k.toInt,.int .u64 j.t.toNat,.int .u64 j.v.toNat,.int .i64 j.x.toInt]] w λe w'=>e= .returned (.bool (fR i j))/\aoV w w':=gR _ _ _ _ _ _ _ _ _ _ w
theorem b8(i j:aC)(w:World):Calls prog 166 #[.agg #[.int .i64 i.s.toInt,.int .i64 i.k.toInt,.int .u64 i.t.toNat,.int .u64 i.v.toNat,.int .i64 i.x.toInt],.agg #[.int .i64 j.s.toInt,.int .i64 j.k.toInt,.int .u64 j.t.toNat,.int .u64 j.v.toNat,.int .i64 j.x.toInt]] w λe w'=>e= .returned (.bool (CJ i j))/\aoV w w':=Kk _ _ _ _ _ _ _ _ _ _ w
theorem Ws(i j:aC)(w:World):Calls prog 241 #[.agg #[.int .i64 i.s.toInt,.int .i64 i.k.toInt,.int .u64 i.t.toNat,.int .u64 i.v.toNat,.int .i64 i.x.toInt],.agg #[.int .i64 j.s.toInt,.int .i64 j.k.toInt,.int .u64 j.t.toNat,.int .u64 j.v.toNat,.int .i64 j.x.toInt]] w λe w'=>e= .returned (.bool (ti i j))/\aoV w w':=s8 _ _ _ _ _ _ _ _ _ _ w
theorem b7(i j:aC)(w:World):Calls prog 165 #[.agg #[.int .i64 i.s.toInt,.int .i64 i.k.toInt,.int .u64 i.t.toNat,.int .u64 i.v.toNat,.int .i64 i.x.toInt],.agg #[.int .i64 j.s.toInt,.int .i64 j.k.toInt,.int .u64 j.t.toNat,.int .u64 j.v.toNat,.int .i64 j.x.toInt]] w λe w'=>e= .returned (.bool (xX i j))/\aoV w w':=by
 have hs:xX i j=(!fR i j && !fR j i):=rfl;have dg:=aoU hs;clear hs;have h1:=λw0=>Hz i j w0
 have h2:=λw0=>Hz j i w0
 have H1:=aoU h1;have H2:=aoU h2;clear h1 h2;generalize fR i j=a at *;generalize fR j i=b at *;go_enter func165,ntmps165
 go_wp2_with fail;refine(H1.out _).mono ?_;rintro e w1⟨rfl,hu1⟩;obtain⟨i0,i1,i2,i3,i4⟩:=LN (((Rd.item w i 37).alloc (by simp) _).stay (by simp) hu1);obtain⟨LR,j1,j2,dL,P7⟩:=LN ((Rd.item (w.alloc _) j 37).stay (by simp) hu1);rw[fF] at LR j1 j2 dL P7;have hu:aoV w w1:=(((aoV.refl w).alloc _).alloc _).trans hu1;clear hu1;cases a
 .go_wp2_with fail;refine(H2.out _).mono ?_;rintro e w2⟨rfl,aq⟩;go_wp2_with fail;go_ret;exact⟨AE (by rw[dg.out];rfl),hu.trans aq⟩
 .go_wp2_with fail;go_ret;exact⟨AE (by rw[dg.out];rfl),hu⟩
def cU(n:Nat):List UInt8:=if n<128 then [UInt8.ofNat n] else UInt8.ofNat (n%128+128)::cU (n / 128)
termination_by n
decreasing_by omega
theorem yZ{n:Nat}(h:n<128):cU n= [UInt8.ofNat n]:=by rw[cU,if_pos h]
theorem P8{n:Nat}(h:¬n<128):cU n=UInt8.ofNat (n%128+128)::cU (n / 128):=by rw[cU,if_neg h]
theorem B7(k:Nat):∀n,n<128^(k+1)->(cU n).length<=k+1:=by
 induction k with
 |zero=>intro n h;rw[yZ (by simpa using h)];simp
 |succ k ih=>
  intro n h;by_cases hn:n<128
  .rw[yZ hn];simp
  .rw[P8 hn];have:=ih (n / 128) (by rw[Nat.div_lt_iff_lt_mul (by decide)];rw[Nat.pow_succ] at h;exact h);simp only[iu];omega
theorem pH{n:Nat}(h:n<18446744073709551616):(cU n).length<=10:=B7 9 n (cg h (by decide))
def nN:List UInt8->Nat->Nat->Nat×Nat×Nat
 | [],_,_=>(0,0,4)
 |c::r,i,acc=>
  if (i=9/\1<c.toNat)\/(0<i/\c.toNat=0) then(0,0,3)
  else if c.toNat<128 then(acc+c.toNat%128*128^i,i+1,0)
  else nN r (i+1) (acc+c.toNat%128*128^i)
def gS(l:List UInt8):Nat×Nat×Nat:=nN l 0 0
theorem r9{i:Nat}(hi:i<=9):128^i<=9223372036854775808:=by
 have:(128:Nat)^i<=128^9:=Nat.pow_le_pow_right (by decide) hi;simpa using this
theorem Qa{acc i ch:Nat}(ha:acc<128^i):acc+ch%128*128^i<128^(i+1):=by
 have h1:ch%128*128^i<=127*128^i:=Nat.mul_le_mul_right _ (by omega);rw[Nat.pow_succ];omega
theorem Wt{acc i ch:Nat}(hi:i<=9)(ha:acc<128^i)(h9:i=9->ch<=1):acc+ch%128*128^i<18446744073709551616:=by
 by_cases h:i=9
 .subst h;have h1:ch%128*128^9<=1*128^9:=Nat.mul_le_mul_right _ (by have:=h9 rfl;omega);have e:(128:Nat)^9=9223372036854775808:=by decide
  rw[e] at *;omega
 .have:=Qa (ch:=ch) ha;have h2:=r9 (i:=i+1) (by omega);omega
theorem Qb{acc i:Nat}{ch:UInt8}(hi:i<=9)(ha:acc<128^i)(h9:i=9->ch.toNat<=1):
 bits .or .u64 (acc:Int) (IntKind.u64.wrap (IntKind.u64.wrap (bits .and .u8 (ch.toNat:Int) 127)*2^(7*i)))=((acc+ch.toNat%128*128^i:Nat):Int):=by
 have hf:=Wt hi ha h9;have hc:ch.toNat<256:=ch.toNat_lt;have e1:bits .and .u8 (ch.toNat:Int) 127=((ch.toNat%128:Nat):Int):=by
  rw[show(127:Int)=((127:Nat):Int) from rfl,u8_and_nat _ _ hc (by decide),nat_mask7]
 have e2:(2:Int)^(7*i)=((128^i:Nat):Int):=by rw[Int.natCast_pow,show((128:Nat):Int)=2^7 from rfl,<- Int.pow_mul]
 have bG:IntKind.u64.wrap ((ch.toNat%128:Nat):Int)=((ch.toNat%128:Nat):Int):=by
  rw[IntKind.wrap_u64];omega
 rw[e1,bG,e2,<- Int.natCast_mul];have bT:IntKind.u64.wrap ((ch.toNat%128*128^i:Nat):Int)=((ch.toNat%128*128^i:Nat):Int):=by
  rw[IntKind.wrap_u64];omega
 rw[bT,u64_or_nat _ _ (by omega) (by omega),Nat.or_comm,nat_join (7*i),Nat.add_comm]
 .rw[Nat.pow_mul];exact Nat.mul_mod_left _ _
 .rw[Nat.pow_mul];exact ha
theorem b6{acc:Nat}{ch:UInt8}(ha:acc<128^9)(h9:ch.toNat<=1):
 bits .or .u64 (acc:Int) (IntKind.u64.wrap (IntKind.u64.wrap (bits .and .u8 (ch.toNat:Int) 127)*9223372036854775808))=((acc+ch.toNat%128*128^9:Nat):Int):=by
 rw[<- Qb (i:=9) (by omega) ha (λ_=>h9),show(2:Int)^(7*9)=9223372036854775808 by decide]
theorem jv(ch:UInt8):(((ch.toNat:Int)==0)=true->ch.toNat=0)/\(((ch.toNat:Int)==0)=false->0<ch.toNat):=by
 constructor
 .intro h;have:=beq_iff_eq.1 h;omega
 .intro h;have:=beq_eq_false_iff_ne.1 h;omega
theorem HY{c:UInt8}{r:List UInt8}{i acc:Nat}(h:(i=9/\1<c.toNat)\/(0<i/\c.toNat=0)):nN (c::r) i acc=(0,0,3):=by rw[nN,if_pos h]
theorem Ib{c:UInt8}{r:List UInt8}{i acc:Nat}(h:¬((i=9/\1<c.toNat)\/(0<i/\c.toNat=0)))(h2:c.toNat<128):nN (c::r) i acc=(acc+c.toNat%128*128^i,i+1,0):=by rw[nN,if_neg h,if_pos h2]
theorem LS{c:UInt8}{r:List UInt8}{i acc:Nat}(h:¬((i=9/\1<c.toNat)\/(0<i/\c.toNat=0)))(h2:¬c.toNat<128):nN (c::r) i acc=nN r (i+1) (acc+c.toNat%128*128^i):=by rw[nN,if_neg h,if_neg h2]
def ve(n:Int):Nat:=if n<0 then(-(n+1)).toNat*2+1 else n.toNat*2
theorem zj(a:Nat)(ha:a<18446744073709551616):bits .xor .u64 (a:Int) 18446744073709551615=((18446744073709551615-a:Nat):Int):=by
 rw[show(18446744073709551615:Int)=((18446744073709551615:Nat):Int) from rfl,u64_xor_nat _ _ ha (by decide)]
 congr 1
 have h:=congrArg BitVec.toNat (BitVec.xor_allOnes (x:=BitVec.ofNat 64 a));rw[BitVec.toNat_xor,BitVec.toNat_allOnes,BitVec.toNat_not,BitVec.toNat_ofNat,Nat.mod_eq_of_lt (by simpa using ha)] at h;simpa using h
theorem zP(n:Int)(h1: -9223372036854775808<=n)(h2:n<=9223372036854775807):
 bits .xor .u64 (IntKind.u64.wrap (IntKind.u64.wrap n*2)) (IntKind.u64.wrap (n / 9223372036854775808))=(ve n:Int):=by
 unfold ve;by_cases hn:n<0
 .rw[if_pos hn];have e1:IntKind.u64.wrap (n / 9223372036854775808)=18446744073709551615:=by rw[IntKind.wrap_u64];omega
  obtain⟨a,ha⟩:∃a:Nat,IntKind.u64.wrap (IntKind.u64.wrap n*2)=(a:Int):=⟨(IntKind.u64.wrap (IntKind.u64.wrap n*2)).toNat,by rw[IntKind.wrap_u64];omega⟩
  have hb:a<18446744073709551616:=by rw[IntKind.wrap_u64] at ha;omega
  rw[e1,ha,zj a hb];rw[IntKind.wrap_u64,IntKind.wrap_u64] at ha;omega
 .rw[if_neg hn];have e1:IntKind.u64.wrap (n / 9223372036854775808)=((0:Nat):Int):=by rw[IntKind.wrap_u64];omega
  have e2:IntKind.u64.wrap (IntKind.u64.wrap n*2)=((n.toNat*2:Nat):Int):=by rw[IntKind.wrap_u64,IntKind.wrap_u64];omega
  rw[e1,e2,u64_xor_nat _ _ (by omega) (by omega),Nat.xor_zero]
theorem Wu(n:Int)(h1: -9223372036854775808<=n)(h2:n<=9223372036854775807):ve n<18446744073709551616:=by unfold ve;split <;>omega
def y'(n:Nat):List UInt8:=(List.range 8).map λi=>UInt8.ofNat (n / 2^(56-8*i))
theorem Wv(n:Nat):(y' n).length=8:=by simp[y']
theorem XX(n k:Nat)(hk:k<8):(y' n).take k++[UInt8.ofNat (n / 2^(56-8*k))]=(y' n).take (k+1):=by
 rw[lU (by simpa[y'] using hk)];simp[y']
theorem ZZ(x k:Nat):Value.int .u8 ((x:Int) / 2^(56-8*k)%256)=bv (UInt8.ofNat (x / 2^(56-8*k))):=by
 rw[En];simp
def ri(q:List UInt64):List UInt8:=q.flatMap λx=>cU x.toNat
def oO(q:List UInt64):List UInt8:=cU q.length++ri q
theorem Kc(q:List UInt64)(x:UInt64):ri (q++[x])=ri q++cU x.toNat:=by simp[ri]
theorem mm(l:List UInt8):∀(i acc:Nat),i<=9->acc<128^i->(nN l i acc).2.2=0->
 (nN l i acc).1<18446744073709551616/\i+1<=(nN l i acc).2.1/\(nN l i acc).2.1<=i+l.length/\(nN l i acc).2.1<=10:=by
 induction l with
 |nil=>intro i acc _ _ h;simp[nN] at h
 |cons c r ih=>
  intro i acc hi ha h;by_cases hf:(i=9/\1<c.toNat)\/(0<i/\c.toNat=0)
  .rw[HY hf] at h;simp at h
  .by_cases h2:c.toNat<128
   .rw[Ib hf h2];exact⟨Wt hi ha (by omega),by simp,by simp only[iu];omega,by simp only;omega⟩
   .rw[LS hf h2] at h|-;have amy:i<=8:=by omega
    obtain⟨a,b,c',d⟩:=ih (i+1) _ (by omega) (Qa ha) h;exact⟨a,by omega,by simp only[iu];omega,d⟩
theorem EL{l:List UInt8}(h:(gS l).2.2=0):(gS l).1<18446744073709551616/\1<=(gS l).2.1/\(gS l).2.1<=l.length/\(gS l).2.1<=10:=by
 unfold gS at h|-;obtain⟨a,b,c,d⟩:=mm l 0 0 (by omega) (by simp) h;exact⟨a,by omega,by simpa using c,d⟩
def rj:Nat->List UInt8->Nat->List UInt64->List UInt64×Nat×Nat
 |0,_,at_,acc=>(acc,at_,0)
 |k+1,l,at_,acc=>
  if (gS (l.drop at_)).2.2=0 then rj k l (at_+(gS (l.drop at_)).2.1) (acc++[UInt64.ofNat (gS (l.drop at_)).1])
  else([],0,(gS (l.drop at_)).2.2)
def oQ(l:List UInt8)(most:Int):List UInt64×Nat×Nat:=
 if (gS l).2.2≠0 then([],0,(gS l).2.2)
 else if (if most<0 then 0 else most)<((gS l).1:Int) then([],0,2)
 else rj (gS l).1 l (gS l).2.1 []
theorem Rf:∀k,k<256->bits .or .u8 ((k:Nat):Int) 128=((k%128+128:Nat):Int):=by decide +kernel
theorem x9(m:Nat):Value.int .u8 (bits BinOp.or IntKind.u8 ((m:Int)%256) 128)=bv (UInt8.ofNat (m%128+128)):=by
 rw[En,show((m:Int)%256)=((m%256:Nat):Int) by omega,Rf _ (Nat.mod_lt _ (by decide))]
 congr 1;omega
theorem za(A:Option Addr)(n c:Nat)(bs:List UInt8)(x:Nat)(w:World)(hr:Rd w w.heap.size 1 A n (cu bs))(hn:n<=1099511627776)(hx:(x:Int)<=18446744073709551615):
 Calls prog 245 #[.slice A n c,.int .u64 x] w λe w'=>∃A' n' c',e= .returned (.slice A' n' c')/\fG w' w.heap.size A' n' c' (bs++cU x)/\aoV w w':=by
 go_enter func245,ntmps245
 go_wp2_with (first
  |(
   at_builtin
   refine iF _ qP (fC _ w.heap.size _ _) hr (sI _) (by omega) (by omega) (aZ _) rfl rfl rfl rfl ?_;intro v1 w1 kA hg1 apN))
 have hu1:aoV w w1:=(aoV.refl w).grown hg1 (by simp[Value.ownBlock]);simp only[dV,gY] at kA;go_loopw[1,5] (λq v wr=>∃(m:Nat)(pre:List UInt8),q= .int .u64 m/\(m:Int)<=18446744073709551615/\wr.ownsRow w.heap.size 5 1 v pre.length (cu pre)/\Hid (pre++cU m=bs++cU x)/\aoV w wr)
  (λq _ _=>(intOf q).toNat)
 case atStart=>exact⟨x,bs,rfl,by omega,by have:=hr.len;simp only[Em,Nat.mul_one] at this;rw[this];exact kA,rfl,hu1⟩
 case round=>
  obtain⟨m,pre,rfl,hm,hown,hp,hu⟩:=hrel;clear kA hu1;have hl:pre.length+(cU m).length=n+(cU x).length:=by
   have:=congrArg List.length hp.out;have h2:=hr.len;simp only[dG,Em,Nat.mul_one] at this h2;omega
  have Qc:=pH (n:=x) (by omega);have hbd:pre.length<=1099511627786:=by omega
  have bU:=aoU hl;clear hl Qc hn hr;by_cases hlt:m<128
  .have hb:Value.int .u8 m=bv (UInt8.ofNat m):=by rw[En];congr 1;omega
   have gD:=aoU hb;clear hb;go_wp2_with (at_builtin;refine iF _ qP (news:=cu [UInt8.ofNat m]) (hown.alloc _) (Rd.Pf _ _ gD.out) (sI _) (by omega) (by omega) (by simp;have:=hu.size;omega) rfl rfl rfl rfl ?_;intro v2 w2 ao5 ex sT)
   obtain⟨iA,c2,rfl⟩:=eL ao5;go_ret;refine⟨iA,_,c2,rfl,?_,hu.alloc _ |>.grown ex (λk hk=>(hown.lt k hk).1)⟩;show World.ownsRow _ _ _ _ _ _ _;rw[<- hp.out,yG,yZ hlt];exact ao5
  .have gD:=aoU (x9 m);go_wp2_with (at_builtin;refine iF _ qP (news:=cu [UInt8.ofNat (m%128+128)]) (hown.alloc _) (Rd.Pf _ _ gD.out) (sI _) (by omega) (by omega) (by simp;have:=hu.size;omega) rfl rfl rfl rfl ?_;intro v2 w2 ao5 ex sT)
   go_roundw
   case rel=>
    refine⟨m / 128,pre++[UInt8.ofNat (m%128+128)],by go_num,by omega,?_,?_,hu.alloc _ |>.grown ex (λk hk=>(hown.lt k hk).1)⟩
    .rw[yG,dG];exact ao5
    .show _=_;rw[<- hp.out,P8 hlt];simp
   case measure=>simp[intOf];omega
theorem apy(A:Option Addr)(n c:Nat)(bs:List UInt8)(w:World)(hr:Rd w w.heap.size 1 A n (cu bs))(hn:n<=9223372036854775807):
 Calls prog 154 #[.slice A n c] w λe w'=>e= .returned (.tuple #[.int .u64 ((gS bs).1:Int),.int .i64 ((gS bs).2.1:Int),.int .i64 ((gS bs).2.2:Int)])/\w=w':=by
 go_enter func154,ntmps154
 go_wp2
 go_loop [2,9] (λq i=>∃(k acc:Nat),i= .int .i64 k/\q= .int .u64 acc/\k<=n/\k<=9/\acc<128^k/\Hid (nN (bs.drop k) k acc=gS bs)) (λ_ i=>n-(intOf i).toNat)
 case atStart=>exact⟨0,0,rfl,rfl,by omega,by omega,by simp,rfl⟩
 case round=>
  obtain⟨k,acc,rfl,rfl,hk,oS,hacc,ht⟩:=hrel;by_cases hlt:k<n
  .obtain⟨b,o,rfl,_,hc⟩:=hr.byte hlt;have qX:k<bs.length:=by have:=hr.len;simp only[Em] at this;omega
   have Qd:nN (bs.drop k) k acc=nN (bs.getD k 0::bs.drop (k+1)) k acc:=by
    rw[List.drop_eq_getElem_cons qX];simp[List.getD,qX]
   generalize (bs.getD k 0)=ch at hc Qd;have fk:Hid (nN (ch::bs.drop (k+1)) k acc=gS bs):=Qd.symm.trans ht.out;clear Qd ht hr;have jh:=aoU (jv ch);by_cases h9:k=9
   .subst h9;go_wp2
    all_goals (first|have hz:=jh.out.1 (by assumption)|have hz:=jh.out.2 (by assumption)|skip)
    all_goals first
     |(go_ret3;rw[<- fk.out,HY (by omega)];exact⟨rfl,rfl⟩)
     |(go_ret3;rw[<- fk.out,Ib (by omega) (by omega)];exact⟨by rw[<- b6 hacc (by omega)];rfl,rfl⟩)
   .go_wp2
    all_goals (first|have hz:=jh.out.1 (by assumption)|have hz:=jh.out.2 (by assumption)|skip)
    all_goals first
     |(go_ret3;rw[<- fk.out,HY (by omega)];exact⟨rfl,rfl⟩)
     |(go_ret3;rw[<- fk.out,Ib (by omega) (by omega)];exact⟨by rw[<- Qb (by omega) hacc (by omega)];rfl,rfl⟩)
     |(
      go_round
      case rel=>exact⟨k+1,_,by go_num,congrArg _ (Qb (by omega) hacc (by omega)),by omega,by omega,Qa hacc,(LS (by omega) (by omega)).symm.trans fk.out⟩
      case measure=>simp[intOf];omega)
  .go_wp2
   go_ret3
   have hk':k=n:=by omega
   rw[<- ht.out,List.drop_of_length_le (by have:=hr.len;simp only[Em] at this;omega)];exact⟨rfl,rfl⟩
theorem apO(n:Int)(w:World)(h1: -9223372036854775808<=n)(h2:n<=9223372036854775807):
 Calls prog 325 #[.int .i64 n] w λe w'=>e= .returned (.int .u64 (ve n:Int))/\w=w':=by
 go_enter func325,ntmps325
 go_wp2
 go_ret;exact⟨by rw[<- zP n h1 h2];rfl,rfl⟩
theorem aac(A:Option Addr)(n c:Nat)(bs:List UInt8)(x:Nat)(w:World)(hr:Rd w w.heap.size 1 A n (cu bs))(hn:n<=1099511627776)(hx:(x:Int)<=18446744073709551615):
 Calls prog 292 #[.slice A n c,.int .u64 x] w λe w'=>∃A' n' c',e= .returned (.slice A' n' c')/\fG w' w.heap.size A' n' c' (bs++y' x)/\aoV w w':=by
 go_enter func292,ntmps292
 go_wp2_with (first
  |(
   at_builtin
   refine iF _ qP (fC _ w.heap.size _ _) hr (sI _) (by omega) (by omega) (aZ _) rfl rfl rfl rfl ?_;intro v1 w1 kA hg1 apN))
 have hu1:aoV w w1:=(aoV.refl w).grown hg1 (by simp[Value.ownBlock]);simp only[dV,gY] at kA;go_loopw[5,6] (λv i wr=>∃(k:Nat),i= .int .i64 (56-8*(k:Int))/\k<=8/\wr.ownsRow w.heap.size 5 1 v (n+k) (cu (bs++(y' x).take k))/\aoV w wr)
  (λ_ i _=>(intOf i+8).toNat)
 case atStart=>exact⟨0,by go_num,by omega,by simpa using kA,hu1⟩
 case round=>
  obtain⟨k,rfl,hk,hown,hu⟩:=hrel;clear kA hu1 hr;by_cases hlt:k<8
  .have gD:=aoU (ZZ x k);go_wp2_with (at_builtin;refine iF _ qP (news:=cu [UInt8.ofNat (x / 2^(56-8*k))]) (hown.alloc _) (Rd.Pf _ _ gD.out) (sI _) (by omega) (by omega) (by simp;have:=hu.size;omega) rfl rfl rfl rfl ?_;intro v2 w2 ao5 ex sT)
   go_roundw
   case rel=>
    refine⟨k+1,by go_num,by omega,?_,hu.alloc _ |>.grown ex (λk hk=>(hown.lt k hk).1)⟩;rw[<- XX x k hlt,<- jg,yG];exact ao5
   case measure=>simp[intOf];omega
  .obtain⟨iA,c2,rfl⟩:=eL hown;go_wp2
   go_ret;have xY:k=8:=by omega
   subst xY;rw[lV (by rw[Wv];omega)] at hown;exact⟨iA,_,c2,rfl,hown,hu⟩
def LU(i:aC):List UInt8:=byteOf i.s.toInt::byteOf i.k.toInt::y' i.t.toNat
theorem aad(i:aC)(w:World):
 Calls prog 236 #[.agg #[.int .i64 i.s.toInt,.int .i64 i.k.toInt,.int .u64 i.t.toNat,.int .u64 i.v.toNat,.int .i64 i.x.toInt]] w λe w'=>∃A' n' c',e= .returned (.slice A' n' c')/\fG w' w.heap.size A' n' c' (LU i)/\aoV w w':=by
 go_enter func236,ntmps236
 go_wp2_with fail;refine(aac _ 2 2 [byteOf i.s.toInt,byteOf i.k.toInt] i.t.toNat _ (Rd.Lj _ _ _ _ (by simp) (by simp[cu,Ph])) (by omega) (by have:=i.t.toNat_lt;omega)).mono ?_;rintro e w1⟨fX,n1,c1,rfl,gu,hu1⟩;go_wp2_with fail;go_ret;exact⟨fX,n1,c1,rfl,jP gu (by simp;omega),(((aoV.refl w).alloc _).alloc _).trans hu1⟩
theorem aae(i:aC)(w:World):
 Calls prog 191 #[.agg #[.int .i64 i.s.toInt,.int .i64 i.k.toInt,.int .u64 i.t.toNat,.int .u64 i.v.toNat,.int .i64 i.x.toInt]] w λe w'=>e= .returned (.bool (!okB i))/\aoV w w':=by
 go_enter func191,ntmps191
 go_wp2_with fail;refine(Hy i _).mono ?_;rintro e w1⟨rfl,hu⟩;go_wp2_with fail;go_ret;exact⟨rfl,((aoV.refl w).alloc _).trans hu⟩
theorem aaf(A:Option Addr)(n c:Nat)(l:List aC)(w:World)(hr:Rd w w.heap.size 5 A n (bl l))(hn:n<=9223372036854775807):
 Calls prog 192 #[.slice A n c,.func (.func 191) #[] #[]] w λe w'=>∃z:Int,e= .returned (.int .i64 z)/\Hid (l.all okB=decide (z<0))/\aoV w w':=by
 have bU:=aoU hr.og;go_enter func192,ntmps192
 go_wp2_with fail;go_loopw[8] (λi wr=>∃k:Nat,i= .int .i64 k/\k<=n/\Hid ((l.take k).all okB=true)/\aoV w wr) (λi _=>n-(intOf i).toNat)
 case atStart=>exact⟨0,rfl,by omega,rfl,aoV.refl _⟩
 case round=>
  obtain⟨k,rfl,hk,hall,hu⟩:=hrel;by_cases hlt:k<n
  .obtain⟨b,o,i,rfl,hb,hik,c0,c1,c2,c3,c4⟩:=(hr.stay (aZ _) hu).wI hlt;have fS:=aoU hik;clear hik;go_wp2_with fail;refine(aae i wr).mono ?_;rintro e w2⟨rfl,aq⟩;have bS:k<l.length:=by have:=bU.out;omega
   have htk:l.take (k+1)=l.take k++[i]:=by
    rw[lU bS];have:=fS.out;rw[dh bS] at this;injection this with this;rw[this]
   have fk:=aoU htk;clear htk c0 c1 c2 c3 c4;cases hok:okB i
   .have hf:Hid (l.all okB=decide ((k:Int)<0)):=by
     show _=_;have:okB l[k]=false:=by
      have h:=fS.out;rw[dh bS] at h;injection h with h;rw[h];exact hok
     have h2:l.all okB=false:=by
      rw[List.all_eq_false];exact⟨l[k],List.getElem_mem _,by rw[this];simp⟩
     rw[h2];simp
    clear hok;go_wp2_with fail;go_ret;exact⟨k,rfl,hf,hu.trans aq⟩
   .have cO:=aoU hok;clear hok;go_wp2_with fail;go_roundw
    case rel=>
     refine⟨k+1,by go_num,by omega,?_,hu.trans aq⟩;show _=_;rw[fk.out,List.all_append,hall.out];simp[cO.out]
    case measure=>simp[intOf];omega
  .go_wp2_with fail;go_ret;refine⟨-1,rfl,?_,hu⟩;show _=_;have hk':k=l.length:=by have:=bU.out;omega
   have h:=hall.out;rw[hk',lV (aZ _)] at h;rw[h];rfl
theorem LV(A:Option Addr)(n c:Nat)(l:List aC)(w:World)(hr:Rd w w.heap.size 5 A n (bl l))(hn:n<=9223372036854775807):
 Calls prog 124 #[.slice A n c] w λe w'=>e= .returned (.bool (l.all okB))/\aoV w w':=by
 have h1:=aaf A n c l w hr hn;have H1:=aoU h1;clear h1;generalize l.all okB=r at *;have h2:Calls prog 126 #[.slice A n c,.func (.func 191) #[] #[]] w λe w'=>e= .returned (.bool (!r))/\aoV w w':=by
  go_enter func126,ntmps126
  go_wp2_with fail;refine H1.out.mono ?_;rintro e w1⟨z,rfl,hz,hu⟩;go_wp2_with fail;go_ret;refine⟨AE ?_,hu⟩;rw[hz.out];by_cases h:z<0
  .simp[h]
  .simp[h];omega
 have H2:=aoU h2;clear h2 H1;go_enter func124,ntmps124
 go_wp2_with fail;refine H2.out.mono ?_;rintro e w1⟨rfl,hu⟩;go_wp2_with fail;go_ret;exact⟨AE (by simp),hu⟩
def EP(n:Nat):Nat:=if n%2=1 then(n / 2)^^^2197175160 else n / 2
def EQ:Nat->Nat->Nat
 |0,n=>n
 |k+1,n=>EQ k (EP n)
def WF(n:Nat)(b:UInt8):Nat:=EQ 8 (n^^^b.toNat)
def ue(n:Nat)(l:List UInt8):Nat:=l.foldl WF n
theorem aak(a:Nat)(ha:a<4294967296):bits .and .u32 (a:Int) 1=((a%2:Nat):Int):=by
 rw[show(1:Int)=((1:Nat):Int) from rfl,u32_and_nat a 1 ha (by decide),Nat.and_one_is_mod]
theorem WG{n:Nat}(h:n<4294967296):EP n<4294967296:=by
 unfold EP;split
 .have h2:(n / 2)^^^2197175160<2^32:=Nat.xor_lt_two_pow (by omega) (by decide);omega
 .omega
theorem aal(z:Nat)(hz:z<4294967296):bits .xor .u32 ((z:Int) / 2) (bits .and .u32 2197175160 (-bits .and .u32 (z:Int) 1%4294967296))=(EP z:Int):=by
 rw[aak z hz];unfold EP;by_cases h:z%2=1
 .rw[if_pos h,h,show(-((1:Nat):Int))%4294967296=((4294967295:Nat):Int) by decide,show(2197175160:Int)=((2197175160:Nat):Int) from rfl,u32_and_nat _ _ (by decide) (by decide),
   show(z:Int) / 2=((z / 2:Nat):Int) by omega,show 2197175160&&&4294967295=2197175160 by decide,u32_xor_nat _ _ (by omega) (by decide)]
 .have h0:z%2=0:=by omega
  rw[if_neg h,h0,show(-((0:Nat):Int))%4294967296=((0:Nat):Int) by decide,show(2197175160:Int)=((2197175160:Nat):Int) from rfl,u32_and_nat _ _ (by decide) (by decide),
   show(z:Int) / 2=((z / 2:Nat):Int) by omega,show 2197175160&&&0=0 by decide,u32_xor_nat _ _ (by omega) (by decide),Nat.xor_zero]
theorem WH:∀(k:Nat){n:Nat},n<4294967296->EQ k n<4294967296
 |0,_,h=>h
 |k+1,_,h=>WH k (WG h)
theorem WI{x:Nat}(b:UInt8)(h:x<4294967296):x^^^b.toNat<4294967296:=by
 have h2:x^^^b.toNat<2^32:=Nat.xor_lt_two_pow (by omega) (by have:=b.toNat_lt;omega);omega
theorem aam{n:Nat}(b:UInt8)(h:n<4294967296):WF n b<4294967296:=WH 8 (WI b h)
theorem aan{n:Nat}(l:List UInt8)(h:n<4294967296):ue n l<4294967296:=by
 induction l generalizing n with
 |nil=>exact h
 |cons b l ih=>exact ih (aam b h)
theorem aao(n:Nat)(a b:List UInt8):ue n (a++b)=ue (ue n a) b:=by simp[ue]
theorem aap(A:Option Addr)(m c:Nat)(l:List UInt8)(n:Nat)(w:World)(hr:Rd w w.heap.size 1 A m (cu l))(hm:m<=9223372036854775807)(hn:n<4294967296):
 Calls prog 377 #[.int .u32 n,.slice A m c] w λe w'=>e= .returned (.int .u32 (ue n l:Int))/\w=w':=by
 have bU:=aoU hr.gO;have ff:=aoU (Eq.refl (ue n l));go_enter func377,ntmps377
 go_wp2_with fail;go_loop [0,9] (λq i=>∃(k:Nat)(x:Nat),i= .int .i64 k/\q= .int .u32 x/\x<4294967296/\k<=m/\Hid (ue n (l.take k)=x)) (λ_ i=>m-(intOf i).toNat)
 case atStart=>exact⟨0,n,rfl,rfl,hn,by omega,rfl⟩
 case round=>
  obtain⟨k,x,rfl,rfl,hx,hk,hH⟩:=hrel;by_cases hlt:k<m
  .obtain⟨b,o,rfl,hb,hc⟩:=hr.byte hlt;have hq:l.take (k+1)=l.take k++[l.getD k 0]:=by
    have:k<l.length:=by have:=bU.out;omega
    rw[lU this];simp[List.getD,this]
   generalize l.getD k 0=b0 at hc hq;have WJ:bits .xor .u32 (x:Int) ((b0.toNat:Int)%4294967296)=((x^^^b0.toNat:Nat):Int):=by
    have:=b0.toNat_lt;rw[Int.emod_eq_of_lt (by omega) (by omega),u32_xor_nat _ _ hx (by omega)]
   have ji:=aoU hq;have hx0:=WI b0 hx;clear hq;go_wp2_with fail;clear WJ;generalize apd:x^^^b0.toNat=z0 at *;have jh:=aoU apd;clear apd;go_loop [0,17] (λq j=>∃(z:Nat)(zd:Nat),j= .int .i64 zd/\q= .int .u32 z/\z<4294967296/\zd<=8/\Hid (EQ (8-zd) z=EQ 8 z0)) (λ_ j=>8-(intOf j).toNat)
   case atStart=>exact⟨z0,0,rfl,rfl,hx0,by omega,rfl⟩
   case round=>
    obtain⟨z,zd,rfl,rfl,hz,hj,ER⟩:=hrel;by_cases iy:zd<8
    .have hs:=aal z hz;have AG:=WG hz;go_wp2_with fail;clear hs;go_round
     case rel=>
      refine⟨EP z,zd+1,by go_num,rfl,AG,by omega,?_⟩;show _=_;rw[<- ER.out,show 8-zd=(8-(zd+1))+1 by omega];rfl
     case measure=>simp[intOf];omega
    .have h8:zd=8:=by omega
     subst h8;go_wp2_with fail;go_round
     case rel=>
      refine⟨k+1,z,by go_num,rfl,hz,by omega,?_⟩;show _=_;rw[ji.out,aao,hH.out];show EQ 8 (x^^^b0.toNat)=z;rw[jh.out,<- ER.out];rfl
     case measure=>simp[intOf];omega
  .go_wp2_with fail;go_ret;have hk':k=l.length:=by have:=bU.out;omega
   rw[hk',lV (aZ _)] at hH;rw[hH.out];exact⟨rfl,rfl⟩
def AH(l:List UInt8):Nat:=4294967295-ue 4294967295 l
def ES(n:Nat):List UInt8:= [UInt8.ofNat n,UInt8.ofNat (n / 256),UInt8.ofNat (n / 65536),UInt8.ofNat (n / 16777216)]
def iB(l:List UInt8):List UInt8:=l++ES (AH l)
theorem aaq(l:List UInt8):AH l<4294967296:=by unfold AH;omega
theorem LY(n:Nat):(ES n).length=4:=rfl
theorem EV(l:List UInt8):(iB l).length=l.length+4:=by simp[iB,LY]
theorem aar(x:Nat)(hx:x<4294967296):bits .xor .u32 IntKind.u32.max (x:Int)=((4294967295-x:Nat):Int):=by
 rw[show IntKind.u32.max=((4294967295:Nat):Int) by decide,u32_xor_nat _ _ (by decide) hx,Nat.xor_comm]
 congr 1
 have h:=congrArg BitVec.toNat (BitVec.xor_allOnes (x:=BitVec.ofNat 32 x));rw[BitVec.toNat_xor,BitVec.toNat_allOnes,BitVec.toNat_not,BitVec.toNat_ofNat,Nat.mod_eq_of_lt (by simpa using hx)] at h;simpa using h
theorem aas(g:Nat)(A:Option Addr)(n c:Nat)(l:List UInt8)(w:World)(hc:w.cell? ⟨g,0,none⟩=some (.slice A n c))(hr:Rd w w.heap.size 1 A n (cu l))(hn:n<=9223372036854775807):
 Calls prog 353 #[.slice (some ⟨g,0,none⟩) 1 1] w λe w'=>e= .returned (.int .u32 (AH l:Int))/\w=w':=by
 have hl:=aan l (n:=4294967295) (by decide);have hv:AH l=4294967295-ue 4294967295 l:=rfl;have cd:=aoU hv;clear hv;go_enter func353,ntmps353
 go_wp2_with fail;go_loop [3,8] (λq i=>∃(k:Nat)(x:Nat),i= .int .i64 k/\q= .int .u32 x/\k<=1/\Hid (k=0->x=4294967295)/\Hid (k=1->x=ue 4294967295 l)) (λ_ i=>1-(intOf i).toNat)
 case atStart=>exact⟨0,4294967295,rfl,rfl,by omega,λ_=>rfl,λh=>by omega⟩
 case round=>
  obtain⟨k,x,rfl,rfl,hk,h0,h1⟩:=hrel;by_cases ug:k=0
  .have hx:=h0.out ug;subst ug;subst hx;clear h0 h1;go_wp2_with fail;refine(aap A n c l 4294967295 w hr hn (by decide)).mono ?_;rintro e w1⟨rfl,rfl⟩;go_wp2_with fail;go_round
   case rel=>exact⟨1,ue 4294967295 l,rfl,rfl,by omega,λh=>by omega,λ_=>rfl⟩
   case measure=>simp[intOf]
  .have iU:k=1:=by omega
   have hx:=h1.out iU;subst iU;clear h0 h1 ug;generalize ue 4294967295 l=y at *;subst hx;go_wp2_with fail;go_ret;rw[cd.out,aar x hl];exact⟨rfl,rfl⟩
theorem aat(A:Option Addr)(n c:Nat)(l:List UInt8)(w:World)(hr:Rd w w.heap.size 1 A n (cu l))(hn:n<=9223372036854775807):
 Calls prog 317 #[.slice A n c] w λe w'=>e= .returned (.int .u32 (AH l:Int))/\aoV w w':=by
 go_enter func317,ntmps317
 go_wp2_with fail;refine(aas w.heap.size A n c l _ (by rw[World.cell?_alloc_at (w:=w) _ _ _ _ rfl];rfl) (hr.up ((aoV.refl w).alloc _)) hn).mono ?_;rintro e w1⟨rfl,rfl⟩;go_wp2_with fail;go_ret;exact⟨rfl,(aoV.refl w).alloc _⟩
theorem LZ(A:Option Addr)(n c:Nat)(l:List UInt8)(w:World)(hr:Rd w w.heap.size 1 A n (cu l))(hn:n<=1099511627776):
 Calls prog 277 #[.slice A n c] w λe w'=>∃A' c',e= .returned (.slice A' (n+4) c')/\fG w' w.heap.size A' (n+4) c' (iB l)/\aoV w w':=by
 have hs:=aaq l;have hv:iB l=l++ES (AH l):=rfl;have cd:=aoU hv;clear hv;go_enter func277,ntmps277
 go_wp2_with fail;refine(aat A n c l w hr (by omega)).mono ?_;rintro e w1⟨rfl,hu1⟩;generalize AH l=y at *;have hnil:fG w1 w.heap.size none 0 0 []:=fC _ _ _ _;have kz:=hr.up hu1;have hb:([.int .u8 ((y:Int)%256),.int .u8 ((y:Int) / 256%256),.int .u8 ((y:Int) / 65536%256),.int .u8 ((y:Int) / 16777216)]:List Value)=cu (ES y):=by
  have e1:(y:Int)%256=((y%256:Nat):Int):=by omega
  have e2:(y:Int) / 256%256=((y / 256%256:Nat):Int):=by omega
  have bG:(y:Int) / 65536%256=((y / 65536%256:Nat):Int):=by omega
  have bT:(y:Int) / 16777216=((y / 16777216%256:Nat):Int):=by omega
  simp only[cu,ES,List.map_cons,List.map_nil,En,e1,e2,bG,bT]
 have gD:=aoU hb;clear hb;go_wp2_with (first
  |(at_builtin;refine iF _ qP hnil kz (sI _) (by omega) (by omega) (by have:=hu1.size;omega) rfl rfl rfl rfl ?_;intro v2 w2 ao5 ex sT;obtain⟨iA,c2,rfl⟩:=eL ao5;simp only[dV] at ao5;rw[show cu []++cu l=cu l from rfl] at ao5)
  |(at_builtin;refine iF _ qP (lu ao5 _) (Rd.Lj _ (ES y) _ _ rfl gD.out) (sI _) (by simp[LY];omega) (by simp[LY];omega) (by simp;have:=hu1.size;have:=ex.size;omega) rfl rfl rfl rfl ?_;intro v3 w3 rk kM EM;obtain⟨rl,c3,rfl⟩:=eL rk))
 go_ret;rw[LY,<- yG] at rk;refine⟨rl,c3,rfl,?_,?_⟩
 .rw[cd.out];exact rk
 .exact((hu1.grown ex (λg hg=>by simp[Value.ownBlock] at hg)).alloc _).grown kM (λg hg=>(ao5.lt g hg).1)
theorem aaB(x i:Nat):x%128*128^i+x / 128*128^(i+1)=x*128^i:=by
 have h:=Nat.mod_add_div x 128
 calc x%128*128^i+x / 128*128^(i+1)=(x%128+128*(x / 128))*128^i:=by rw[Nat.pow_succ,Nat.add_mul];congr 1;rw[Nat.mul_comm 128,Nat.mul_assoc,Nat.mul_comm 128]
  _=x*128^i:=by rw[h]
theorem aaC(r:List UInt8):∀(n x i acc:Nat),x<=n->i<=9->x<2^(64-7*i)->(0<i->0<x)->nN (cU x++r) i acc=(acc+x*128^i,i+(cU x).length,0):=by
 intro n;induction n with
 |zero=>
  intro x i acc hx hi h1 h2;have h0:x=0:=by omega
  subst h0;have:i=0:=by rcases Nat.eq_zero_or_pos i with h|h;exact h;exact absurd (h2 h) (by omega)
  subst this;rw[yZ (by omega)];exact Ib (by simp) (by decide)
 |succ n ih=>
  intro x i acc hx hi h1 h2;by_cases hlt:x<128
  .rw[yZ hlt];have e:(UInt8.ofNat x).toNat=x:=by simp;omega
   rw[List.cons_append,gY,Ib,e]
   .rw[Nat.mod_eq_of_lt hlt];rfl
   .rw[e];rintro (⟨h9,hx1⟩|⟨h0,hx0⟩)
    .subst h9;simp at h1;omega
    .have:=h2 h0;omega
   .rw[e];exact hlt
  .rw[P8 hlt];have e:(UInt8.ofNat (x%128+128)).toNat=x%128+128:=by simp;omega
   have h8:i<=8:=by
    rcases Nat.lt_or_ge i 9 with h|h
    .omega
    .have:i=9:=by omega
     subst this;simp at h1;omega
   rw[List.cons_append,LS,e,ih (x / 128) (i+1) _ (by omega) (by omega) ?_ (λ_=>by omega)]
   .rw[show(x%128+128)%128=x%128 by omega,Nat.add_assoc,aaB,iu];simp only[Prod.mk.injEq,and_true,true_and];omega
   .rw[Nat.div_lt_iff_lt_mul (by decide),show(128:Nat)=2^7 from rfl,<- Nat.pow_add];rw[show 64-7*(i+1)+7=64-7*i by omega];exact h1
   .rw[e];omega
   .rw[e];omega
theorem L5(x:Nat)(r:List UInt8)(hx:x<18446744073709551616):gS (cU x++r)=(x,(cU x).length,0):=by
 have:=aaC r x x 0 0 (aZ _) (by omega) (by simpa using hx) (λh=>absurd h (by omega));unfold gS;rw[this];simp
theorem aaD(x:UInt64)(q:List UInt64):ri (x::q)=cU x.toNat++ri q:=by simp[ri]
theorem aaE(q:List UInt64):∀(pre r:List UInt8)(acc:List UInt64),rj q.length (pre++(ri q++r)) pre.length acc=(acc++q,pre.length+(ri q).length,0):=by
 induction q with
 |nil=>intro pre r acc;simp[rj,ri]
 |cons x q ih=>
  intro pre r acc;rw[iu,rj,List.drop_left,aaD,jg,L5 _ _ x.toNat_lt];have h:=ih (pre++cU x.toNat) r (acc++[UInt64.ofNat x.toNat]);rw[dG,jg] at h;simp only[if_true];rw[h];simp[Nat.add_assoc]
theorem aaF(q:List UInt64)(r:List UInt8)(most:Int)(hq:q.length<18446744073709551616)(hm:(q.length:Int)<=most):oQ (oO q++r) most=(q,(oO q).length,0):=by
 unfold oQ oO;rw[jg,L5 _ _ hq];rw[if_neg (by simp),if_neg (by split <;>omega)];rw[aaE];simp
theorem WO:∀(k:Nat)(l:List UInt8)(a:Nat)(acc:List UInt64),(rj k l a acc).1.length<=acc.length+(l.length-a)
 |0,l,a,acc=>by simp only[rj];omega
 |k+1,l,a,acc=>by
  rw[rj];split
  .rename_i h;have h2:=EL h;have h3:=WO k l (a+(gS (l.drop a)).2.1) (acc++[UInt64.ofNat (gS (l.drop a)).1]);simp only[dG,List.length_singleton,List.length_drop] at h2 h3;omega
  .simp
theorem aaG(l:List UInt8)(most:Int):(oQ l most).1.length<=l.length:=by
 have h:=WO (gS l).1 l (gS l).2.1 [];simp only[List.length_nil] at h;unfold oQ;by_cases h1:(gS l).2.2≠0
 .rw[if_pos h1];simp
 .rw[if_neg h1];by_cases h2:(if most<0 then 0 else most)<((gS l).1:Int)
  .rw[if_pos h2];simp
  .rw[if_neg h2];omega
where
 step0 (i acc:Nat) (c:UInt8):nN ([]++[UInt8.ofNat (c.toNat%128+128),0]) i acc=(0,0,3):=by
  rw[gY];by_cases hf:(i=9/\1<(UInt8.ofNat (c.toNat%128+128)).toNat)\/(0<i/\(UInt8.ofNat (c.toNat%128+128)).toNat=0)
  .exact HY hf
  .rw[LS hf (by simp;omega)];exact HY (.inr ⟨by omega,rfl⟩)
theorem WP(a:Int)(m:Nat)(hm:m<9223372036854775808):∃k:Nat,bits .and .i64 a (m:Int)=(k:Int)/\k<=m:=by
 refine⟨(BitVec.ofInt 64 a).toNat&&&m,?_,Nat.and_le_right⟩;have hk:(BitVec.ofInt 64 a).toNat&&&m<=m:=Nat.and_le_right;show IntKind.i64.wrap ((BitVec.ofInt 64 a&&&BitVec.ofInt 64 (m:Int)).toNat:Int)=_;rw[BitVec.toNat_and,ofInt_u64 m (by omega),IntKind.wrap_i64];omega
end
section
open Go.ChangeShapes Go.WideShapes Go.ChangeAt Go.RowKit Go.Deep
theorem Mc{α:Type}(f:α->List Value){sz:Nat}(hf:∀x,(f x).length=sz)(l:List α):(l.flatMap f).length=l.length*sz:=by
 induction l with
 |nil=>simp
 |cons x l ih=>rw[List.flatMap_cons,dG,hf,ih,iu,Nat.add_mul];omega
theorem Qq{α:Type}(f:α->List Value){sz:Nat}(hf:∀x,(f x).length=sz)(l:List α){k:Nat}(hk:k<l.length){j:Nat}(hj:j<sz):(l.flatMap f)[k*sz+j]?=(f l[k])[j]?:=by
 induction l generalizing k with
 |nil=>simp at hk
 |cons x l ih=>
  cases k with
  |zero=>
   simp only[List.flatMap_cons,Nat.zero_mul,dV,List.getElem_cons_zero];rw[List.getElem?_append_left (by rw[hf];exact hj)]
  |succ k=>
   have hk':k<l.length:=by simpa using hk
   have:=ih hk';simp only[List.flatMap_cons,List.getElem_cons_succ];rw[List.getElem?_append_right (by rw[hf,Nat.add_mul];omega),<- this]
   congr 1;rw[hf,Nat.add_mul];omega
theorem W9(b o k:Nat):(⟨b,o,none⟩:Addr).add k=⟨b,o+k,none⟩:=by unfold Addr.add;split <;>simp_all
def Md(w:World)(A:Option Addr)(n c:Nat)(ps:List lX):Prop:=Rd w w.heap.size 1 A n (ps.map lX.v)/\(∀p∈ps,Wp w p.A p.n p.c p.l)/\n<=c/\c<=9223372036854775807
section
variable{H:Type}{enc:TypeId×Value->H}{W:World}{sp:Nat->Bool}{a:Option Addr}{len cap:Nat}{d:DataW H}{p:List MemPlace}
instance:Inhabited { p:lX // Wp W p.A p.n p.c p.l } :=⟨⟨⟨none,0,0,[]⟩,Rd.empty,by simp,by simp⟩⟩
end
end
section
open Go.RowKit
theorem XQ:jr prog 355 26 1 8:=jr.mk' underlying355 (z:= .int .u64 0) (by kernel_rfl) rfl (by decide)
def sb(w:World)(base:Nat)(A:Option Addr)(n c:Nat)(l:List UInt64):Prop:=w.ownsRow base 26 1 (.slice A n c) n (p6 l)
section
variable{w w':World}{base n c:Nat}{A:Option Addr}{q:List UInt64}
theorem sb.rd(h:sb w base A n c q):Rd w w.heap.size 1 A n (p6 q):=Rd.own h
theorem sb.len(h:sb w base A n c q):n=q.length:=by have:=h.1;simp only[Vk] at this;omega
theorem sb.up(h:sb w base A n c q)(hu:aoV w w'):sb w' base A n c q:=el h hu
end
theorem abQ(A:Option Addr)(n c:Nat)(bs:List UInt8)(Q:Option Addr)(m d:Nat)(q:List UInt64)(w:World)(hr:Rd w w.heap.size 1 A n (cu bs))(hq:Rd w w.heap.size 1 Q m (p6 q))(hn:n+10*m+10<=1099511627776):
 Calls prog 251 #[.slice A n c,.slice Q m d] w λe w'=>∃A' n' c',e= .returned (.slice A' n' c')/\fG w' w.heap.size A' n' c' (bs++oO q)/\aoV w w':=by
 have hl:=hr.gO;have hm:=hq.GM;have bU:=aoU hl;have eT:=aoU hm;clear hl hm;go_enter func251,ntmps251
 go_wp2_with fail;refine(za A n c bs m w hr (by omega) (by omega)).mono ?_;rintro e w1⟨fX,n1,c1,rfl,gu,hu1⟩;go_wp2_with fail;go_loopw[5,15] (λv i wr=>∃(k:Nat)(A':Option Addr)(n' c':Nat),i= .int .i64 k/\v= .slice A' n' c'/\k<=m/\n'<=n+10*k+10/\fG wr w.heap.size A' n' c' (bs++cU m++ri (q.take k))/\aoV w wr)
  (λ_ i _=>m-(intOf i).toNat)
 case atStart=>
  refine⟨0,fX,n1,c1,rfl,rfl,by omega,?_,by simpa[ri] using gu,hu1⟩;have h1:=gu.len;have h2:=pH (n:=m) (by omega);have h3:=bU.out;simp only[dG] at h1;omega
 case round=>
  obtain⟨k,A',n',c',rfl,rfl,hk,hn',hown,hu⟩:=hrel;clear gu hu1;by_cases hlt:k<m
  .obtain⟨b,o,rfl,hb,hc⟩:=hq.num hlt;have jz:=(hu.cell (p:=⟨b,o+k,none⟩) hb).trans hc;clear hc;have apk:q.take (k+1)=q.take k++[q.getD k 0]:=by
    have:k<q.length:=by have:=eT.out;omega
    rw[lU this];simp[List.getD,this]
   generalize (q.getD k 0)=x at jz apk;have ji:=aoU apk;clear apk;have hx:=x.toNat_lt;go_wp2_with fail;refine(za A' n' c' _ x.toNat wr hown.rd (by omega) (by omega)).mono ?_;rintro e w2⟨iA,n2,c2,rfl,qk,aq⟩;go_wp2_with fail;go_roundw
   case rel=>
    refine⟨k+1,iA,n2,c2,by go_num,rfl,by omega,?_,?_,hu.trans aq⟩
    .have h1:=qk.len;have h2:=pH hx;have h3:=hown.len;rw[dG] at h1;omega
    .rw[ji.out,Kc,<- jg];exact jP qk hu.size
   case measure=>simp[intOf];omega
  .go_wp2
   go_ret;have hk':k=m:=by omega
   rw[hk',lV (by have:=eT.out;omega),eT.out] at hown;exact⟨A',n',c',rfl,by rw[oO,<- jg];exact hown,hu⟩
theorem acJ(
 A:Option Addr)(n c:Nat)(bs:List UInt8)(most:Int)(w:World)(hr:Rd w w.heap.size 1 A n (cu bs))(hn:n<=1099511627776)(hcap:n<=c)(sq: -9223372036854775808<=most)(hm2:most<=9223372036854775807):
 Calls prog 278 #[.slice A n c,.int .i64 most] w λe w'=>∃A' n' c',e= .returned (.tuple #[.slice A' n' c',.int .i64 ((oQ bs most).2.1:Int),.int .i64 ((oQ bs most).2.2:Int)])/\sb w' w.heap.size A' n' c' (oQ bs most).1/\aoV w w':=by
 have hl:=hr.gO;have bU:=aoU hl;clear hl;have I0:∀w0,sb w0 w.heap.size none 0 0 []:=λw0=>fC _ _ _ _
 have MP:=aoU I0;clear I0;obtain⟨x,at_,o9,ht⟩:∃x a e,gS bs=(x,a,e):=⟨_,_,_,rfl⟩
 have hu:oQ bs most=if o9≠0 then([],0,o9) else if (if most<0 then 0 else most)<(x:Int) then([],0,2) else rj x bs at_ []:=by unfold oQ;rw[ht]
 have kG:=aoU hu;have fk:=aoU ht;clear hu ht;have CG:=apo;go_enter func278,ntmps278
 go_wp2_with fail;refine(apy A n c bs w hr (by omega)).mono ?_;rintro e w1⟨rfl,rfl⟩;rw[fk.out];by_cases he:o9=0
 .subst he;have⟨hx,AQ,rS,Rk⟩:x<18446744073709551616/\1<=at_/\at_<=bs.length/\at_<=10:=by have:=EL (l:=bs) (by rw[fk.out]);rw[fk.out] at this;exact this
  by_cases ud:(if most<0 then 0 else most)<(x:Int)
  .have dz:Hid (oQ bs most=([],0,2)):=by show _=_;rw[kG.out,if_neg (by simp),if_pos ud]
   clear kG;by_cases hm0:most<0;all_goals
    simp only[hm0,if_true,if_false] at ud;go_wp2_with fail;go_ret3
    rw[dz.out];exact⟨none,0,0,rfl,MP.out _,aoV.refl _⟩
  .have dz:Hid (rj x bs at_ []=oQ bs most):=by show _=_;rw[kG.out,if_neg (by simp),if_neg ud]
   clear kG;by_cases hm0:most<0;all_goals
    simp only[hm0,if_true,if_false] at ud;have YI:(x:Int)<=18446744073709551615:=by omega
    clear hx;go_wp2_with fail;go_loopw[8,10,31] (λp v i wr=>∃(k at_:Nat)(Q:Option Addr)(m d:Nat)(acc:List UInt64),i= .int .u64 k/\p= .int .i64 at_/\v= .slice Q m d/\k<=x/\at_<=n/\m<=at_/\sb wr w.heap.size Q m d acc/\aoV w wr/\Hid (rj (x-k) bs at_ acc=oQ bs most))
     (λ_ _ i _=>x-(intOf i).toNat)
    case atStart=>exact⟨0,at_,none,0,0,[],rfl,rfl,rfl,by omega,by have:=bU.out;omega,by omega,MP.out _,aoV.refl _,dz.out⟩
    case round=>
     clear dz;obtain⟨k,at_,Q,m,d,acc,rfl,rfl,rfl,hk,hat,hm,hown,hu,hun⟩:=hrel;by_cases hlt:k<x
     .try (exfalso;omega)
      all_goals
       have hrd:=(hr.below hu).GN (k:=at_) (cap:=c) (by omega) (by omega);have fJ:=aoU hrd;clear hrd;go_wp2_with fail;refine(apy _ _ _ (bs.drop at_) wr (fJ.out.mono (hu.size)) (by omega)).mono ?_;rintro e w2⟨rfl,rfl⟩;have htk:∃y s e2,gS (bs.drop at_)=(y,s,e2):=⟨_,_,_,rfl⟩
       obtain⟨y,s,e2,htk⟩:=htk;rw[htk];have lY:Hid (oQ bs most=if e2=0 then rj (x-k-1) bs (at_+s) (acc++[UInt64.ofNat y]) else([],0,e2)):=by
        show _=_;rw[<- hun.out,show x-k=(x-k-1)+1 by omega,rj,htk];simp
       clear hun;by_cases he:e2=0
       .subst he;have hb:(((0:Nat):Int) !=0)=false:=by simp
        have⟨hy,hs1,hs2⟩:(y:Int)<=18446744073709551615/\1<=s/\s<=n-at_:=by
         have:=EL (l:=bs.drop at_) (by rw[htk]);rw[htk] at this;have h3:=bU.out;simp only[List.length_drop] at this;omega
        have gD:Hid (Value.int .u64 y=Cf (UInt64.ofNat y)):=by
         show _=_;rw[Vn];congr 1;omega
        clear htk hb;go_wp2_with (at_builtin;refine iF _ XQ (news:=p6 [UInt64.ofNat y]) (hown.alloc _) (Rd.Vp _ _ gD.out) (Vm _) (by omega) (by omega) (by simp;have:=hu.size;omega) rfl rfl rfl rfl ?_;intro v2 w2 ao5 ex sT)
        obtain⟨iA,c2,rfl⟩:=eL ao5;go_roundw
        case rel=>
         refine⟨k+1,at_+s,iA,_,c2,acc++[UInt64.ofNat y],by go_num,by go_num,rfl,by omega,by omega,by omega,?_,hu.alloc _ |>.grown ex (λk hk=>(hown.lt k hk).1),?_⟩
         .show World.ownsRow _ _ _ _ _ _ _;rw[Vl];exact ao5
         .show _=_;rw[lY.out,if_pos (by trivial),show x-(k+1)=x-k-1 by omega]
        case measure=>simp[intOf];omega
       .have hb:((e2:Int) !=0)=true:=by rw[bne_iff_ne];omega
        clear htk;go_wp2
        go_ret3
        rw[lY.out,if_neg he];exact⟨none,0,0,rfl,MP.out _,hu⟩
     .go_wp2
      go_ret3
      have hk':k=x:=by omega
      have h:=hun.out;rw[hk',Nat.sub_self,rj] at h;rw[<- h];exact⟨Q,m,d,rfl,hown,hu⟩
 .have hb:((o9:Int) !=0)=true:=by rw[bne_iff_ne];omega
  go_wp2_with fail;go_ret3
  rw[kG.out,if_pos he];exact⟨none,0,0,rfl,MP.out _,aoV.refl _⟩
end
section
open Go.ChangeShapes Go.WideShapes Go.ChangeAt Go.RowKit Go.Deep
instance:Inhabited aC:=⟨⟨0,0,0,0,0⟩⟩
def adJ(w:World)(A:Option Addr)(n c:Nat)(l:List aC):Prop:=Rd w w.heap.size 5 A n (bl l)/\n<=c/\c<=9223372036854775807
section
variable{H:Type}{enc:TypeId×Value->H}{W:World}{sp:Nat->Bool}{a:Option Addr}{len cap:Nat}{d:DataW H}{p:List MemPlace}
end
end
end Go.Proofs.YtfghplfgndppfaaGreatDoor
