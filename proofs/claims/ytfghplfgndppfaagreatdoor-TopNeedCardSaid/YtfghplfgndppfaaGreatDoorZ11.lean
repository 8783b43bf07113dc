/- Texts of this claim, joined: ItemW4, ItemW6, ItemW5, ItemW9, LogW1, Rw, RwO, ItemW10, LogW2, MsgW1, TpP, MsgW2, EditW3, EditW4, EditW8, EditW9, TpP2, TpW1. -/
import Derived.Deep.QuietTactic
import Derived.BigQuiet
import Derived.IntWalk
import Derived.Deep.Cut
import Derived.Deep.CutRange
import Derived.Shelf.RegionOpenPlain
import Derived.Deep.RegionLaw
import Derived.Laws.IdiomCopy
import Derived.Lib.SliceRun
import Derived.Test.YtfghplfgndppfaaGreatDoorZ8
set_option linter.unusedVariables false
set_option linter.unusedSimpArgs false
set_option maxRecDepth 100000
set_option maxHeartbeats 8000000
namespace Go.Proofs.YtfghplfgndppfaaGreatDoor
open Go.Proofs.Tryz
section
open Go.RowKit
theorem aaN(A:Option Addr)(n c:Nat)(l:List aC)(w:World)(hr:Rd w w.heap.size 5 A n (bl l))(hn:n<=9223372036854775807):
 Calls prog 260 #[.slice A n c] w λe w'=>∃A' n' c',e= .returned (.tuple #[.slice A' n' c',.int .i64 (lh l:Int)])/\fG w' w.heap.size A' n' c' (fh l)/\aoV w w':=by
 have tj:∀w0,fG w0 w.heap.size none 0 0 []:=λw0=>fC _ _ _ _
 have mc:=aoU tj;clear tj;have bU:=aoU hr.og;by_cases h0:n=0
 .have aaO:((n:Int)==0)=true:=by rw[beq_iff_eq];omega
  have hE:lh l=1:=by unfold lh;rw[if_pos (by rw[<- bU.out];exact h0)]
  have hL:fh l= []:=by unfold fh;rw[hE,if_neg (by decide)]
  have ft:=aoU hE;have gD:=aoU hL;clear hE hL h0;go_enter func260,ntmps260
  go_wp2_with fail;go_ret2
  rw[ft.out,gD.out];exact⟨none,0,0,rfl,mc.out _,aoV.refl _⟩
 .have aaO:((n:Int)==0)=false:=by rw[beq_eq_false_iff_ne];omega
  have Ig:lh l=if mP l≠0 then mP l else if 60000<(oT l).length then 2 else 0:=by unfold lh;rw[if_neg (by rw[<- bU.out];exact h0)]
  have ze:=aoU Ig;clear Ig;go_enter func260,ntmps260
  go_wp2_with fail;refine(aag none 0 0 [] A n c l w Rd.empty hr (by omega) hn).mono ?_;rintro e w2⟨D,b9,bX,rfl,mz,aq⟩;obtain⟨be,mg⟩:=bB (mP l)
  rw[<- mg] at ze|-;by_cases hb0:be=0
  .have hby:mP l=0:=by rw[<- mg];exact hb0
   have WU:=aaz l (aaA hby);rw[Wx hby,gY] at mz;have hdl:=mz.rd;have hdn:=hdl.gO;have c1:((be:Int) !=0)=false:=by rw[bne_eq_false_iff_eq];omega
   have amE:((be:Int)==0)=true:=by rw[beq_iff_eq];omega
   have tq:=ze.out;rw[if_neg (by omega)] at tq;have AL:=aoU hdn;clear hdn mg ze;by_cases h6:60000<b9
   .have aaP:(60000:Int)<(b9:Int):=by omega
    rw[if_pos (by rw[<- AL.out];exact h6)] at tq;have hL:fh l= []:=by unfold fh;rw[tq,if_neg (by decide)]
    have ft:=aoU tq;have gD:=aoU hL;clear tq hL hb0 hby WU;go_wp2_with fail;go_ret2
    rw[ft.out,gD.out];exact⟨none,0,0,rfl,mc.out _,aq⟩
   .have aaP:¬(60000:Int)<(b9:Int):=by omega
    have hle:(oT l).length<=60000:=by rw[<- AL.out];omega
    rw[if_neg (by rw[<- AL.out];exact h6)] at tq;have hL:fh l=lF 1 (oT l):=by unfold fh;rw[tq,if_pos rfl]
    have Qm:qo 1 (oT l).length=0:=by unfold qo;rw[if_neg (by omega),if_neg (by omega)]
    have WV:wL [] 1 (oT l)=lF 1 (oT l):=by unfold wL;rw[Qm];rfl
    have ft:=aoU tq;have gD:=aoU hL;have aaQ:=aoU Qm;have oh:=aoU WV;clear tq hL Qm WV hb0 hby WU hle;go_wp2_with fail;refine(Qi none 0 0 [] 1 D b9 bX (oT l) w2 Rd.empty hdl (by omega) (by omega)).mono ?_;rintro e w3⟨apg,fw,ma,rfl,WW,bV⟩;rw[aaQ.out];rw[oh.out] at WW;have hsz:=aq.size;go_wp2_with fail;first|go_ret2|go_ret
    rw[ft.out,gD.out];exact⟨apg,fw,ma,rfl,jP WW hsz,aq.trans bV⟩
  .have c1:((be:Int) !=0)=true:=by rw[bne_iff_ne];omega
   have tq:=ze.out;rw[if_pos (by omega)] at tq;have hL:fh l= []:=by unfold fh;rw[tq,if_neg hb0]
   have ft:=aoU tq;have gD:=aoU hL;clear tq hL hb0 mg ze;go_wp2_with fail;go_ret2
   rw[ft.out,gD.out];exact⟨none,0,0,rfl,mc.out _,aq⟩
structure lG where
 A:Option Addr
 n:Nat
 c:Nat
 l:List aC
def lG.v(r:lG):Value:= .slice r.A r.n r.c
def zf(rs:List lG):List Value:=rs.map lG.v
def aa8(rs:List lG):List (List aC):=rs.map lG.l
def rp(w:World)(rs:List lG):Prop:=∀r∈rs,Rd w w.heap.size 5 r.A r.n (bl r.l)/\r.n<=r.c
theorem rp.nil(w:World):rp w []:=λr hr=>by cases hr
theorem rp.up{w w':World}{rs:List lG}(h:rp w rs)(hu:aoV w w'):rp w' rs:=λr hr=>⟨(h r hr).1.up hu,(h r hr).2⟩
theorem rp.snoc{w:World}{rs:List lG}(h:rp w rs){A:Option Addr}{n c:Nat}{l:List aC}(hr:Rd w w.heap.size 5 A n (bl l))(hc:n<=c):rp w (rs++[⟨A,n,c,l⟩]):=λr hr'=>by
 rcases List.mem_append.1 hr' with h1|h1
 .exact h r h1
 .simp at h1;subst h1;exact⟨hr,hc⟩
def tv(w:World)(base:Nat)(rs:List lG):Prop:=∀r∈rs,ej w base r.A r.n r.c r.l
theorem tv.nil(w:World)(base:Nat):tv w base []:=λr hr=>by cases hr
theorem tv.ok{w:World}{base:Nat}{rs:List lG}(h:tv w base rs):rp w rs:=λr hr=>⟨Rd.own (h r hr),sH (h r hr)⟩
theorem tv.snoc{w:World}{base:Nat}{rs:List lG}(h:tv w base rs){A:Option Addr}{n c:Nat}{l:List aC}(hr:ej w base A n c l):tv w base (rs++[⟨A,n,c,l⟩]):=λr hr'=>by
 rcases List.mem_append.1 hr' with h1|h1
 .exact h r h1
 .simp at h1;subst h1;exact hr
theorem tv.up{w w':World}{base:Nat}{rs:List lG}(h:tv w base rs)(hu:aoV w w'):tv w' base rs:=λr hr=>el (h r hr) hu
theorem tv.base{w:World}{base base':Nat}{rs:List lG}(h:tv w base rs)(hb:base'<=base):tv w base' rs:=λr hr=>jP (h r hr) hb
theorem aa9(rs:List lG):(zf rs).length=rs.length:=by simp[zf]
theorem aa'(rs:List lG)(r:lG):zf (rs++[r])=zf rs++[r.v]:=by simp[zf]
theorem Rd.apP{w:World}{B n:Nat}{A:Option Addr}{rs:List lG}(h:Rd w B 1 A n (zf rs)):n=rs.length:=by have:=h.1;rw[aa9,Nat.mul_one] at this;exact this.symm
def Ii(g:Nat)(v0 v1 v2 v3 v4:Value)(W:World):Prop:=W.heap[g]?=some (.cells #[v0,v1,v2,v3,v4] 37 (0,0))
def Qr(B:Nat)(v:Value)(W:World):Prop:=∃g,v= .pointer (some ⟨g,0,none⟩)/\B<=g/\Ii g (.int .i64 0) (.int .i64 0) (.int .u64 0) (.int .u64 0) (.int .i64 0) W
theorem Ii.tW{g:Nat}{v0 v1 v2 v3 v4:Value}{w w':World}{Y:Nat->Prop}(h:Ii g v0 v1 v2 v3 v4 w)(hs:V.qQ Y w w')(hy:Y g):Ii g v0 v1 v2 v3 v4 w':=
 (hs.block g (aB h) hy).trans h
theorem Qr.tW{B:Nat}{v:Value}{w w':World}{Y:Nat->Prop}(h:Qr B v w)(hs:V.qQ (λg=>Y g\/V.ob v g) w w'):Qr B v w':=by
 obtain⟨g,rfl,hb,hh⟩:=h;exact⟨g,rfl,hb,hh.tW hs (.inr rfl)⟩
def Qs(B x0 x1:Nat)(v:Value)(W:World):Prop:=∃g,v= .pointer (some ⟨g,0,none⟩)/\B<=g/\Ii g (.int .i64 x0) (.int .i64 x1) (.int .u64 0) (.int .u64 0) (.int .i64 0) W
theorem Qs.tW{B x0 x1:Nat}{v:Value}{w w':World}{Y:Nat->Prop}(h:Qs B x0 x1 v w)(hs:V.qQ (λg=>Y g\/V.ob v g) w w'):Qs B x0 x1 v w':=by
 obtain⟨g,rfl,hb,hh⟩:=h;exact⟨g,rfl,hb,hh.tW hs (.inr rfl)⟩
def tw(w:World)(base:Nat)(A:Option Addr)(n c:Nat)(rs:List lG):Prop:=w.ownsRow base 30 1 (.slice A n c) n (zf rs)
theorem tw.rd{w:World}{base n c:Nat}{A:Option Addr}{rs:List lG}(h:tw w base A n c rs):Rd w w.heap.size 1 A n (zf rs):=Rd.own h
theorem tw.len{w:World}{base n c:Nat}{A:Option Addr}{rs:List lG}(h:tw w base A n c rs):n=rs.length:=(tw.rd h).apP
theorem tw.up{w w':World}{base n c:Nat}{A:Option Addr}{rs:List lG}(h:tw w base A n c rs)(hu:aoV w w'):tw w' base A n c rs:=el h hu
theorem tw.nil(w:World)(base:Nat):tw w base none 0 0 []:=fC _ _ _ _
theorem tw.snoc{w:World}{base n c:Nat}{A:Option Addr}{rs:List lG}{fX:Option Addr}{n1 c1:Nat}{l:List aC}(h:w.ownsRow base 30 1 (.slice A n c) n (zf rs++[.slice fX n1 c1])):tw w base A n c (rs++[⟨fX,n1,c1,l⟩]):=by
 unfold tw;rw[aa'];exact h
def Xh(r:Option (List (List aC)×Nat))(w:World)(e:Ending)(w':World):Prop:=
 match r with
 |none=>e= .returned (.tuple #[.slice none 0 0,.int .i64 0,.int .i64 9])/\aoV w w'
 |some x=>∃R m rc rs,e= .returned (.tuple #[.slice R m rc,.int .i64 x.2,.int .i64 0])/\tw w' w.heap.size R m rc rs/\tv w' w.heap.size rs/\aa8 rs=x.1/\aoV w w'
theorem Xh.no{r:Option (List (List aC)×Nat)}{w w':World}(h:r=none)(hu:aoV w w'):Xh r w (.returned (.tuple #[.slice none 0 0,.int .i64 0,.int .i64 9])) w':=by subst h;exact⟨rfl,hu⟩
theorem fD{a b:Bool}(h:a=b):Ending.returned (.bool a)= .returned (.bool b):=by rw[h]
def apz(n:Int):Bool:=decide (0<=n/\n<7)
def CO(k:Int):Bool:=decide (k=1\/k=5\/k=7\/k=8)
def pM(k f t:Int)(id n:Nat)(l:List aC):Bool:=decide (1<=k/\k<=10/\(0<=f/\f<7)/\(0<=t/\t<7)/\id<=1099511627776/\n<=281474976710656/\l.length<=1500/\(l.length=0\/CO k=true))&&l.all okB
theorem Xk(n:Int)(w:World):Calls prog 123 #[.int .i64 n] w λe w'=>e= .returned (.bool (apz n))/\w=w':=by
 have hs:apz n=decide (0<=n/\n<7):=rfl;have dg:=aoU hs;clear hs;go_enter func123,ntmps123
 go_wp2
 all_goals
  go_ret;refine⟨fD ?_,rfl⟩;rw[dg.out,Bool.eq_iff_iff];clear dg;first|omega|(simp at *;done)|(simp at *;omega)
theorem abm(n:Int)(w:World):Calls prog 125 #[.int .i64 n] w λe w'=>e= .returned (.bool (CO n))/\w=w':=by
 have hs:CO n=decide (n=1\/n=5\/n=7\/n=8):=rfl;have dg:=aoU hs;clear hs;go_enter func125,ntmps125
 go_wp2
 all_goals
  go_ret;refine⟨fD ?_,rfl⟩;rw[dg.out,Bool.eq_iff_iff];clear dg;first|omega|(simp at *;done)|(simp at *;omega)
theorem zl(k f t:Int)(id n:Nat)(A:Option Addr)(an ac:Nat)(l:List aC)(w:World)(ha:Rd w w.heap.size 5 A an (bl l))(kE:an<=9223372036854775807):
 Calls prog 77 #[.agg #[.int .i64 k,.int .i64 f,.int .i64 t,.int .u64 id,.int .u64 n,.slice A an ac]] w λe w'=>e= .returned (.bool (pM k f t id n l))/\aoV w w':=by
 have hl:an=l.length:=ha.og;have hv:pM k f t id n l=(decide (1<=k/\k<=10/\(0<=f/\f<7)/\(0<=t/\t<7)/\id<=1099511627776/\n<=281474976710656/\an<=1500/\(an=0\/CO k=true))&&l.all okB):=by rw[hl];rfl
 have cd:=aoU hv;clear hv hl;obtain⟨w1,hw1⟩:=bB (w.alloc (.cells #[.int .i64 k,.int .i64 f,.int .i64 t,.int .u64 id,.int .u64 n,.slice A an ac] 135))
 have cj:aoV w w1:=by rw[hw1];exact(aoV.refl w).alloc _
 have hb:w1.heap[w.heap.size]?=some (.cells #[.int .i64 k,.int .i64 f,.int .i64 t,.int .u64 id,.int .u64 n,.slice A an ac] 135 (0,0)):=by rw[hw1];exact bp w _
 have AQ:=ha.up cj;have fT:=aoU hw1;clear hw1 ha;obtain⟨E4,Am⟩:∃x,x=apz f:=⟨_,rfl⟩
 obtain⟨Xl,CP⟩:∃x,x=apz t:=⟨_,rfl⟩
 obtain⟨abn,Qw⟩:∃x,x=CO k:=⟨_,rfl⟩
 have Xm:E4=decide (0<=f/\f<7):=Am;have Xn:Xl=decide (0<=t/\t<7):=CP;rw[<- Qw] at cd;have abo:=aoU Am;have abp:=aoU CP;have abq:=aoU Qw;clear Am CP Qw;have dz:=aoU Xm;have fk:=aoU Xn;clear Xm Xn;by_cases k1:1<=k
 .by_cases k2:k<=10
  .go_enter func77,ntmps77
   go_wp2_with fail;rw[<- fT.out];clear fT;obtain⟨q0,q1,cP,dQ,eX,fM⟩:=iQ hb;generalize w.heap.size=ge at *
   skip
   refine(Xk f w1).mono ?_;rintro e w'⟨rfl,rfl⟩;rw[<- abo.out];cases E4
   .go_wp2_with fail;go_ret;refine⟨fD ?_,cj⟩;rw[cd.out,decide_eq_false (by have:=of_decide_eq_false dz.out.symm;rintro⟨-,-,a3,-⟩;exact this a3)];rfl
   .have f1:=of_decide_eq_true dz.out.symm;go_wp2_with fail;refine(Xk t w1).mono ?_;rintro e w'⟨rfl,rfl⟩;rw[<- abp.out];cases Xl
    .go_wp2_with fail;go_ret;refine⟨fD ?_,cj⟩;rw[cd.out,decide_eq_false (by have:=of_decide_eq_false fk.out.symm;rintro⟨-,-,-,a3,-⟩;exact this a3)];rfl
    .have t1:=of_decide_eq_true fk.out.symm;by_cases aY:id<=1099511627776
     .by_cases cJ:n<=281474976710656
      .by_cases eP:an<=1500
       .have d3:¬(1099511627776:Int)<(id:Int):=by omega
        have d4:¬(281474976710656:Int)<(n:Int):=by omega
        have d5:¬(1500:Int)<(an:Int):=by omega
        go_wp2_with fail;refine(LV A an ac l w1 AQ (by omega)).mono ?_;rintro e w2⟨rfl,aq⟩;have ao0:=(fP aq hb);clear q0 q1 cP dQ eX fM;have q0:=aoW ao0 0;have fM:=aoW ao0 5;replace cj:=cj.trans aq;obtain⟨ba,hba⟩:∃x,x=l.all okB:=⟨_,rfl⟩
        rw[<- hba] at cd|-;clear hba;cases ba
        .go_wp2_with fail;go_ret;refine⟨fD ?_,cj⟩;rw[cd.out,Bool.and_false]
        .by_cases wS:an=0
         .have d6:((an:Int)==0)=true:=by simp;omega
          have Hl:=aoU wS;clear wS;go_wp2_with fail;go_ret;refine⟨fD ?_,cj⟩;rw[cd.out,decide_eq_true ⟨k1,k2,f1,t1,aY,cJ,eP,.inl Hl.out⟩];rfl
         .have d6:((an:Int)==0)=false:=by simp;omega
          go_wp2_with fail;refine(abm k w2).mono ?_;rintro e w'⟨rfl,rfl⟩;rw[<- abq.out];cases abn
          .go_wp2_with fail;go_ret;refine⟨fD ?_,cj⟩;rw[cd.out,decide_eq_false (by rintro⟨-,-,-,-,-,-,-,a⟩;rcases a with a|a;exact wS a;cases a)];rfl
          .go_wp2_with fail;go_ret;refine⟨fD ?_,cj⟩;rw[cd.out,decide_eq_true ⟨k1,k2,f1,t1,aY,cJ,eP,.inr (by trivial)⟩];rfl
       .have d3:¬(1099511627776:Int)<(id:Int):=by omega
        have d4:¬(281474976710656:Int)<(n:Int):=by omega
        have d5:(1500:Int)<(an:Int):=by omega
        go_wp2_with fail;go_ret;refine⟨fD ?_,cj⟩;rw[cd.out,decide_eq_false (by omega)];rfl
      .have d3:¬(1099511627776:Int)<(id:Int):=by omega
       have d4:(281474976710656:Int)<(n:Int):=by omega
       go_wp2_with fail;go_ret;refine⟨fD ?_,cj⟩;rw[cd.out,decide_eq_false (by omega)];rfl
     .have d3:(1099511627776:Int)<(id:Int):=by omega
      go_wp2_with fail;go_ret;refine⟨fD ?_,cj⟩;rw[cd.out,decide_eq_false (by omega)];rfl
  .go_enter func77,ntmps77
   go_wp2_with fail;rw[<- fT.out];go_ret;refine⟨fD ?_,cj⟩;rw[cd.out,decide_eq_false (by omega)];rfl
 .go_enter func77,ntmps77
  go_wp2_with fail;rw[<- fT.out];go_ret;refine⟨fD ?_,cj⟩;rw[cd.out,decide_eq_false (by omega)];rfl
end
section
structure ol where
 kind:Nat
 s:Nat
 t:Nat
 x:Int
structure eU where
 k:Nat
 f:Nat
 t:Nat
 id:Nat
 n:Nat
 l:List aC
structure rV where
 id:Nat
 c:ol
 e:Nat
 v:Nat
 l:List aC
structure dT where
 n:Nat
 at_:Nat
 id:Nat
 c:ol
 v:Nat
 cnt:List Bool
 count:Nat
 cW:List (Nat×List aC)
 ticks:Nat
 fin:Option rV
def abr:rV:=⟨0,⟨0,0,0,0⟩,0,0,[]⟩
def gT(m:eU):Bool:=pM (m.k:Int) (m.f:Int) (m.t:Int) m.id m.n m.l
def jx(n:Nat):Nat:=n / 2+1
def ya(c:ol):Bool:=decide (c.s<=255/\c.t<=1099511627776/\(c.kind=1\/(c.kind=2\/c.kind=3)/\c.t=0/\c.x=0))
def mR(c:ol)(v:Nat):aC:=if c.kind=2 then⟨Int64.ofInt c.s,1,0,UInt64.ofNat v,0⟩ else⟨Int64.ofInt c.s,2,UInt64.ofNat c.t,UInt64.ofNat v,Int64.ofInt c.x⟩
def CQ(c:dT)(aqf:Nat):eU:=if c.c.kind=3 then⟨4,c.at_,aqf,c.id,c.c.s,[]⟩ else⟨1,c.at_,aqf,c.id,0,[mR c.c c.v]⟩
def rW(c:dT):List eU:=(List.range c.n).map (CQ c)
def vj(c:dT):List aC:=
 let cert:=c.cW.foldl (λm g=>max m g.1) 0
 rq (c.cW.foldl (λout g=>jk out (if g.1<cert then g.2.filter (λx=>decide (cert<x.v.toNat)) else g.2)) []) (Int64.ofInt c.c.s)
def CS(c:dT)(e v:Nat):dT:= { c with fin:=some ⟨c.id,c.c,e,v,if e=0 then vj c else []⟩ }
def rX(c:dT)(m:eU):Bool:=c.fin.isNone&&(gT m&&(decide (m.t=c.at_)&&(decide (m.id=c.id)&&(decide (m.f<c.n) && !(c.cnt.getD m.f false)))))
def pN(c:dT)(f:Nat):dT:=
 let c1:= { c with cnt:=c.cnt.set f true,count:=c.count+1 }
 if c1.count=jx c1.n then CS c1 0 c1.v else c1
def gG(c:dT)(m:eU):dT:=
 if rX c m=false then c
 else if c.c.kind≠3/\m.k=3 then CS c 21 m.n
 else if c.c.kind=3/\m.k=5 then pN { c with cW:=c.cW++[(m.n,m.l)] } m.f
 else if c.c.kind=3\/m.k≠2 then c
 else pN c m.f
structure zm where
 aR:Nat
 ls:Nat
end
section
open Go.RowKit
theorem Xo{a b:aC}(h1:a.s.toInt=b.s.toInt)(h2:a.k.toInt=b.k.toInt)(h3:a.t.toNat=b.t.toNat)(h4:a.v.toNat=b.v.toNat)(h5:a.x.toInt=b.x.toInt):a=b:=by
 obtain⟨a1,a2,a3,a4,a5⟩:=a;obtain⟨b1,b2,b3,b4,kB⟩:=b;simp only[aC.mk.injEq];exact⟨Int64.toInt_inj.1 h1,Int64.toInt_inj.1 h2,UInt64.toNat_inj.1 h3,UInt64.toNat_inj.1 h4,Int64.toInt_inj.1 h5⟩
instance:DecidableEq aC:=λa b=>decidable_of_iff (a.s.toInt=b.s.toInt/\a.k.toInt=b.k.toInt/\a.t.toNat=b.t.toNat/\a.v.toNat=b.v.toNat/\a.x.toInt=b.x.toInt)
 ⟨λ⟨h1,h2,h3,h4,h5⟩=>Xo h1 h2 h3 h4 h5,λh=>by rw[h];exact⟨rfl,rfl,rfl,rfl,rfl⟩⟩
theorem apS(
 A:Option Addr)(n c:Nat)(l:List aC)(A':Option Addr)(n' c':Nat)(l':List aC)(w:World)(hr:Rd w w.heap.size 5 A n (bl l))(hr':Rd w w.heap.size 5 A' n' (bl l'))(hn:n<=1099511627776)(hn':n'<=1099511627776):
 Calls prog 193 #[.slice A n c,.slice A' n' c'] w λe w'=>e= .returned (.bool (decide (l=l')))/\aoV w w':=by
 have bU:=aoU hr.og;have Qx:=aoU hr'.og;by_cases wS:n=n'
 .subst wS;have hnn:((n:Int) !=(n:Int))=false:=by simp
  go_enter func193,ntmps193
  go_wp2_with fail;go_loopw[13] (λi wr=>∃k:Nat,i= .int .i64 k/\k<=n/\Hid (l.take k=l'.take k)/\aoV w wr) (λi _=>n-(intOf i).toNat)
  case atStart=>exact⟨0,rfl,by omega,rfl,aoV.refl _⟩
  case round=>
   obtain⟨k,rfl,hk,ht,hu⟩:=hrel;by_cases hlt:k<n
   .obtain⟨b,o,x,rfl,hb,hx,c0,c1,c2,c3,c4⟩:=(hr.up hu).wI hlt;obtain⟨b',o',y,rfl,hb',hy,d0,d1,d2,d3,d4⟩:=(hr'.up hu).wI hlt;obtain⟨x1,hx1⟩:∃z,z=x.s.toInt:=⟨_,rfl⟩
    obtain⟨x2,hx2⟩:∃z,z=x.k.toInt:=⟨_,rfl⟩
    obtain⟨x3,hx3⟩:∃z:Int,z=(x.t.toNat:Int):=⟨_,rfl⟩
    obtain⟨qm,tp⟩:∃z:Int,z=(x.v.toNat:Int):=⟨_,rfl⟩
    obtain⟨Il,rm⟩:∃z,z=x.x.toInt:=⟨_,rfl⟩
    obtain⟨y1,hy1⟩:∃z,z=y.s.toInt:=⟨_,rfl⟩
    obtain⟨lZ,hy2⟩:∃z,z=y.k.toInt:=⟨_,rfl⟩
    obtain⟨wT,Cw⟩:∃z:Int,z=(y.t.toNat:Int):=⟨_,rfl⟩
    obtain⟨oe,Cv⟩:∃z:Int,z=(y.v.toNat:Int):=⟨_,rfl⟩
    obtain⟨vk,tz⟩:∃z,z=y.x.toInt:=⟨_,rfl⟩
    rw[<- hx1] at c0;rw[<- hx2] at c1;rw[<- hx3] at c2;rw[<- tp] at c3;rw[<- rm] at c4;rw[<- hy1] at d0;rw[<- hy2] at d1;rw[<- Cw] at d2;rw[<- Cv] at d3;rw[<- tz] at d4;have aA:=aoU hx1;have cD:=aoU hx2;have lI:=aoU hx3;have ng:=aoU tp;have ep:=aoU rm;have um:=aoU hy1;have aph:=aoU hy2;have E6:=aoU Cw;have vm:=aoU Cv;have E7:=aoU tz;clear hx1 hx2 hx3 tp rm hy1 hy2 Cw Cv tz
    have hS:∀W,aoV wr W->aoV wr W/\(W.cell? ⟨b,o+k*5,none⟩=some (.int .i64 x1)/\W.cell? ⟨b,o+k*5+1,none⟩=some (.int .i64 x2)/\W.cell? ⟨b,o+k*5+2,none⟩=some (.int .u64 x3)/\W.cell? ⟨b,o+k*5+3,none⟩=some (.int .u64 qm)/\W.cell? ⟨b,o+k*5+4,none⟩=some (.int .i64 Il))/\
     (W.cell? ⟨b',o'+k*5,none⟩=some (.int .i64 y1)/\W.cell? ⟨b',o'+k*5+1,none⟩=some (.int .i64 lZ)/\W.cell? ⟨b',o'+k*5+2,none⟩=some (.int .u64 wT)/\W.cell? ⟨b',o'+k*5+3,none⟩=some (.int .u64 oe)/\W.cell? ⟨b',o'+k*5+4,none⟩=some (.int .i64 vk)):=λW h=>
     ⟨h,⟨(h.cell (p:=⟨b,o+k*5,none⟩) hb).trans c0,(h.cell (p:=⟨b,o+k*5+1,none⟩) hb).trans c1,(h.cell (p:=⟨b,o+k*5+2,none⟩) hb).trans c2,(h.cell (p:=⟨b,o+k*5+3,none⟩) hb).trans c3,(h.cell (p:=⟨b,o+k*5+4,none⟩) hb).trans c4⟩,
      (h.cell (p:=⟨b',o'+k*5,none⟩) hb').trans d0,(h.cell (p:=⟨b',o'+k*5+1,none⟩) hb').trans d1,(h.cell (p:=⟨b',o'+k*5+2,none⟩) hb').trans d2,(h.cell (p:=⟨b',o'+k*5+3,none⟩) hb').trans d3,(h.cell (p:=⟨b',o'+k*5+4,none⟩) hb').trans d4⟩
    have bS:k<l.length:=by have:=bU.out;omega
    have Xp:k<l'.length:=by have:=Qx.out;omega
    rw[dh bS] at hx;rw[dh Xp] at hy;injection hx with hx;injection hy with hy;have ew:=aoU hx;have E8:=aoU hy;have hki:(k:Int)<(n:Int):=by omega
    have hkb:decide ((k:Int)<(n:Int))=true:=by simp;omega
    clear hx hy c0 c1 c2 c3 c4 d0 d1 d2 d3 d4;by_cases m1:x1=y1
    .by_cases m2:x2=lZ
     .by_cases m3:x3=wT
      .by_cases m4:qm=oe
       .by_cases m5:Il=vk
        .subst m1;subst m2;subst m3;subst m4;subst m5;have hxy:=Xo (aA.out.symm.trans um.out) (cD.out.symm.trans aph.out) (by have:=lI.out;have:=E6.out;omega) (by have:=ng.out;have:=vm.out;omega) (ep.out.symm.trans E7.out);have abt:=aoU hxy;clear hxy;go_wp2_with fail;apply V.fQ _ (by kernel_rfl) (by kernel_rfl) hS
         .intro aF aoX;iterate 9 (apply V.aj.ok;intros;go_simp;rfl;rfl;go_frame)
          apply V.aj.fin [];intro vs w1 hK hS _;refine aoX.out _ _ ?_;clear aoX;go_wp2_with fail;go_roundw
          case rel=>
           refine⟨k+1,by go_num,by omega,?_,hu.trans (jR hK)⟩;show _=_;rw[lU bS,lU Xp,ht.out,ew.out,E8.out,abt.out]
          case measure=>simp[intOf];omega
         .kernel_rfl
        .have hne:l≠l':=by
          intro e;subst e;have h:=ew.out.symm.trans E8.out;have a1:=aA.out;have a2:=cD.out;have a3:=lI.out;have a4:=ng.out;have a5:=ep.out;have b1:=um.out;have b2:=aph.out;have b3:=E6.out;have b4:=vm.out;have kB:=E7.out;rw[h] at a1 a2 a3 a4 a5;omega
         have un:=aoU hne;clear hne;go_wp2_with fail;apply V.fQ _ (by kernel_rfl) (by kernel_rfl) hS
         .intro aF aoX;iterate 9 (apply V.aj.ok;intros;go_simp;rfl;rfl;go_frame)
          apply V.aj.fin [];intro vs w1 hK hS _;refine aoX.out _ _ ?_;clear aoX;go_wp2_with fail;go_ret;refine⟨fD ?_,hu.trans (jR hK)⟩;have:=un.out;simp[this]
         .kernel_rfl
       .have hne:l≠l':=by
         intro e;subst e;have h:=ew.out.symm.trans E8.out;have a1:=aA.out;have a2:=cD.out;have a3:=lI.out;have a4:=ng.out;have a5:=ep.out;have b1:=um.out;have b2:=aph.out;have b3:=E6.out;have b4:=vm.out;have kB:=E7.out;rw[h] at a1 a2 a3 a4 a5;omega
        have un:=aoU hne;clear hne;go_wp2_with fail;apply V.fQ _ (by kernel_rfl) (by kernel_rfl) hS
        .intro aF aoX;iterate 9 (apply V.aj.ok;intros;go_simp;rfl;rfl;go_frame)
         apply V.aj.fin [];intro vs w1 hK hS _;refine aoX.out _ _ ?_;clear aoX;go_wp2_with fail;go_ret;refine⟨fD ?_,hu.trans (jR hK)⟩;have:=un.out;simp[this]
        .kernel_rfl
      .have hne:l≠l':=by
        intro e;subst e;have h:=ew.out.symm.trans E8.out;have a1:=aA.out;have a2:=cD.out;have a3:=lI.out;have a4:=ng.out;have a5:=ep.out;have b1:=um.out;have b2:=aph.out;have b3:=E6.out;have b4:=vm.out;have kB:=E7.out;rw[h] at a1 a2 a3 a4 a5;omega
       have un:=aoU hne;clear hne;go_wp2_with fail;apply V.fQ _ (by kernel_rfl) (by kernel_rfl) hS
       .intro aF aoX;iterate 9 (apply V.aj.ok;intros;go_simp;rfl;rfl;go_frame)
        apply V.aj.fin [];intro vs w1 hK hS _;refine aoX.out _ _ ?_;clear aoX;go_wp2_with fail;go_ret;refine⟨fD ?_,hu.trans (jR hK)⟩;have:=un.out;simp[this]
       .kernel_rfl
     .have hne:l≠l':=by
       intro e;subst e;have h:=ew.out.symm.trans E8.out;have a1:=aA.out;have a2:=cD.out;have a3:=lI.out;have a4:=ng.out;have a5:=ep.out;have b1:=um.out;have b2:=aph.out;have b3:=E6.out;have b4:=vm.out;have kB:=E7.out;rw[h] at a1 a2 a3 a4 a5;omega
      have un:=aoU hne;clear hne;go_wp2_with fail;apply V.fQ _ (by kernel_rfl) (by kernel_rfl) hS
      .intro aF aoX;iterate 9 (apply V.aj.ok;intros;go_simp;rfl;rfl;go_frame)
       apply V.aj.fin [];intro vs w1 hK hS _;refine aoX.out _ _ ?_;clear aoX;go_wp2_with fail;go_ret;refine⟨fD ?_,hu.trans (jR hK)⟩;have:=un.out;simp[this]
      .kernel_rfl
    .have hne:l≠l':=by
      intro e;subst e;have h:=ew.out.symm.trans E8.out;have a1:=aA.out;have a2:=cD.out;have a3:=lI.out;have a4:=ng.out;have a5:=ep.out;have b1:=um.out;have b2:=aph.out;have b3:=E6.out;have b4:=vm.out;have kB:=E7.out;rw[h] at a1 a2 a3 a4 a5;omega
     have un:=aoU hne;clear hne;go_wp2_with fail;apply V.fQ _ (by kernel_rfl) (by kernel_rfl) hS
     .intro aF aoX;iterate 9 (apply V.aj.ok;intros;go_simp;rfl;rfl;go_frame)
      apply V.aj.fin [];intro vs w1 hK hS _;refine aoX.out _ _ ?_;clear aoX;go_wp2_with fail;go_ret;refine⟨fD ?_,hu.trans (jR hK)⟩;have:=un.out;simp[this]
     .kernel_rfl
   .go_wp2_with fail;go_ret;refine⟨fD ?_,hu⟩;have hkn:k=n:=by omega
    have wM:l=l':=by
     have h:=ht.out
     rwa[lV (by have:=bU.out;omega),lV (by have:=Qx.out;omega)] at h
    rw[wM];simp
 .have hne:decide (l=l')=false:=by
   rw[iO];intro e;apply wS;rw[bU.out,Qx.out,e]
  have un:=aoU hne;clear hne;have hnn:((n:Int) !=(n':Int))=true:=by simp;omega
  go_enter func193,ntmps193
  go_wp2_with fail;go_ret;refine⟨fD ?_,aoV.refl _⟩;rw[un.out]
theorem Iq(g:Nat)(t:TypeId):∀(vs:List Value)(o:Nat)(w:World)(cur:Array Value),w.heap[g]?=some (.cells cur t (0,0))->o+vs.length<=cur.size->
 ∃cur',(w.setCells g o vs).heap[g]?=some (.cells cur' t (0,0))/\cur'.toList=cur.toList.take o++vs++cur.toList.drop (o+vs.length)
 | [],o,w,cur,h,ho=>⟨cur,h,by simp⟩
 |v::vs,o,w,cur,h,ho=>by
  have h1:=bM w g o v cur t h;simp only[iu] at ho;obtain⟨cur',h2,h3⟩:=Iq g t vs (o+1) _ _ h1 (by rw[Array.size_setIfInBounds];omega);refine⟨cur',h2,?_⟩;rw[h3,Array.toList_setIfInBounds];have hlt:o<cur.toList.length:=by rw[Array.length_toList];omega
  rw[lU (by rw[List.length_set];exact hlt),List.getElem_set_self,List.take_set_of_le (by omega),List.drop_set_of_lt (by omega),iu];simp only[jg,List.cons_append,gY,show o+1+vs.length=o+(vs.length+1) by omega]
theorem Ir(g:Nat):∀(vs:List Value)(o:Nat)(w w':World),V.af (λx=>x=g) w w'->V.af (λx=>x=g) w (w'.setCells g o vs)
 | [],_,_,_,h=>h
 |v::vs,o,w,w',h=>Ir g vs (o+1) w _ (aoZ w w' g o v h)
theorem XA:∃i,prog.info? 268=some i/\i.size=2/\i.zero=some (.agg #[.int .i64 0,.int .i64 0]):=by
 obtain⟨i,hi,hz,hs,hby⟩:=info_parts (P:=prog) (e:=268) (z:= .agg #[.int .i64 0,.int .i64 0]) (size:=2) (bytes:=16) (by kernel_rfl);exact⟨i,hi,hs,hz⟩
theorem abA(W:World)(ty:TypeId)(b o c:Nat)(hc:∀j,j<2->(W.cell? ⟨b,o+j,none⟩).isSome=true)(hf:∀j,j<2->W.frozen? ⟨b,o+j,none⟩=false):
 (Builtin.clear_ #[172] ty #[.slice (some ⟨b,o,none⟩) 1 c]).run prog W= .ok (.tuple #[]) (W.setCells b o [.int .i64 0,.int .i64 0]):=by
 obtain⟨i,hi,hs,hz⟩:=XA;have hv:∀w,(zeroValue 268).run prog w= .ok (.agg #[.int .i64 0,.int .i64 0]) w:=λw=>by
  have apd:Tryz.t268.zero=some (.agg #[.int .i64 0,.int .i64 0]):=by kernel_rfl
  unfold zeroValue;simp[go_sem,apd]
 have hst:=run_storeCells_cells (P:=prog) b o [.int .i64 0,.int .i64 0] 0 W (by simpa using hc) (by simpa using hf) (by intro v vg;simp at vg;subst vg;rfl);simp only[Nat.add_zero] at hst;have CT:Builtin.zeroCells (Value.agg #[.int .i64 0,.int .i64 0]).cells 1= #[.int .i64 0,.int .i64 0]:=by
  apply Array.ext_getElem?;intro j;simp[Builtin.zeroCells,Value.cells]
  rcases j with _|_|j <;>simp
 have QC:(Builtin.zeroCells (Value.agg #[.int .i64 0,.int .i64 0]).cells 1).toList= [.int .i64 0,.int .i64 0]:=by rw[CT]
 simp[Builtin.clear_,run_underlying underlying172,hv,QC,CT,hst]
theorem abB(l:List dM)(i:Nat)(cur:List Value)(n:Nat)(hi:i<n)(hn:n=l.length)(hc:cur.take (n*2)=dR l):
 (((cur.take (i*2)++dR (l.drop (i+1))++cur.drop (i*2+(dR (l.drop (i+1))).length)).take ((n-1)*2)++([.int .i64 0,.int .i64 0]:List Value)++(cur.take (i*2)++dR (l.drop (i+1))++cur.drop (i*2+(dR (l.drop (i+1))).length)).drop ((n-1)*2+2)).take ((n-1)*2))=dR (l.eraseIdx i):=by
 have hl:(n*2)<=cur.length:=by
  have:=congrArg List.length hc;rw[kT,AU] at this;omega
 have h1:cur.take (i*2)=dR (l.take i):=by rw[<- Xq,<- hc,List.take_take];congr 1;omega
 have h2:(dR (l.drop (i+1))).length=(n-(i+1))*2:=by rw[AU,List.length_drop,<- hn]
 have h3:(dR (l.take i)).length=i*2:=by rw[AU,kT,<- hn,Nat.min_eq_left (by omega)]
 rw[h1];have h4:(dR (l.take i)++dR (l.drop (i+1))).length=(n-1)*2:=by rw[dG,h2,h3];omega
 generalize cur.drop (i*2+(dR (l.drop (i+1))).length)=Y;have h5:dR (l.eraseIdx i)=dR (l.take i)++dR (l.drop (i+1)):=by rw[List.eraseIdx_eq_take_drop_succ,Qy]
 rw[h5];generalize dR (l.take i)++dR (l.drop (i+1))=X at *;rw[<- h4];have h6:(X++Y).take X.length=X:=List.take_left;rw[h6,jg,List.take_left]
theorem abC(g n c base:Nat)(l:List dM)(i:Nat)(w:World)(h:w.ownsRow base 268 2 (.slice (some ⟨g,0,none⟩) n c) n (dR l))(hi:i<n):
 Calls prog 254 #[.slice (some ⟨g,0,none⟩) n c,.int .i64 i,.int .i64 ((i:Int)+1)] w λe w'=>e= .returned (.slice (some ⟨g,0,none⟩) (n-1) c)/\w'.ownsRow base 268 2 (.slice (some ⟨g,0,none⟩) (n-1) c) (n-1) (dR (l.eraseIdx i))/\V.af (λx=>x=g) w w':=by
 obtain⟨it,hit,Is,abD⟩:=XA;have hlen:=h.1;rw[AU] at hlen;obtain⟨cur,hg,hh,hnc,hcm,hcs,ht⟩:∃cur,base<=g/\w.heap[g]?=some (.cells cur 268 (0,0))/\n<=c/\c<=maxLen/\cur.size=c*2/\cur.toList.take (n*2)=dR l:=by
  rcases h.2 with⟨hv,h0⟩|⟨g',cap,cur,hv,hg,hh,hnc,hcm,hcs,ht⟩
  .omega
  .injection hv with h1 h2 h3;injection h1 with h1;injection h1 with h1;subst h1;subst h3;exact⟨cur,hg,hh,hnc,hcm,hcs,ht⟩
 obtain⟨news,hnews⟩:=bB (dR (l.drop (i+1)))
 have hnl:news.length=(n-(i+1))*2:=by rw[hnews,AU,List.length_drop];omega
 have aS:=abB l i cur.toList n hi (by omega) ht;rw[<- hnews] at aS;have hone:Hid (∀u∈news,u.oneCell'=true):=by rw[hnews];exact Im _
 have hcell:∀j,j<c*2->∃u,w.cell? ⟨g,j,none⟩=some u:=λj hj=>⟨_,by rw[aoW hh,mV (by omega)]⟩
 have hsrc:Hid (∀t u,news[t]?=some u->w.drew.cell? ⟨g,(i+1)*2+t,none⟩=some u):=by
  intro t u hu;have h1:t<news.length:=(gM hu);show w.cell? _=_;rw[aoW hh,<- Array.getElem?_toList];have h2:(dR l)[(i+1)*2+t]?=some u:=by rw[<- hu,hnews,<- abu,List.getElem?_drop]
  rw[<- h2,<- ht,List.getElem?_take_of_lt (by omega)]
 have hspare:Hid (∀t,t<news.length->(w.drew.cell? ⟨g,0+i*2+t,none⟩).isSome=true/\w.drew.frozen? ⟨g,0+i*2+t,none⟩=false):=by
  intro t ht';rw[dV];obtain⟨u,hu⟩:=hcell (i*2+t) (by omega);exact⟨by show(w.cell? _).isSome=true;rw[hu];rfl,ay hh _⟩
 obtain⟨W1,wV⟩:=bB (w.drew.setCells g (0+i*2) news)
 obtain⟨EW,oV,hc1⟩:=Iq g 268 news (i*2) w.drew cur hh (by omega);rw[dV] at wV;rw[<- wV] at oV;have hs1:EW.size=c*2:=by
  have:=congrArg List.length hc1;rw[dG,dG,kT,List.length_drop,Array.length_toList,Array.length_toList] at this;omega
 have cn:∀ty,(Builtin.clear_ #[172] ty #[.slice (some ⟨g,(n-1)*2,none⟩) 1 (c-(n-1))]).run prog W1= .ok (.tuple #[]) (W1.setCells g ((n-1)*2) [.int .i64 0,.int .i64 0]):=λty=>
  abA W1 ty g _ _ (λj hj=>by rw[aoW oV,mV (by omega)];rfl) (λj hj=>ay oV _)
 obtain⟨QD,wW,kJ⟩:=Iq g 268 [.int .i64 0,.int .i64 0] ((n-1)*2) W1 EW oV (by simp;omega);have hK:V.af (λx=>x=g) w (W1.setCells g ((n-1)*2) [.int .i64 0,.int .i64 0]):=Ir g _ _ _ _ (by rw[wV];exact Ir g _ _ _ _ ⟨rfl,rfl,rfl,aZ _,λ_ _ _=>rfl⟩);have hown:(W1.setCells g ((n-1)*2) [.int .i64 0,.int .i64 0]).ownsRow base 268 2 (.slice (some ⟨g,0,none⟩) (n-1) c) (n-1) (dR (l.eraseIdx i)):=by
  refine⟨by rw[AU,List.length_eraseIdx,if_pos (by omega)];omega,.inr ⟨g,c,QD,rfl,hg,wW,by omega,hcm,?_,?_⟩⟩
  .have:=congrArg List.length kJ;rw[dG,dG,kT,List.length_drop,Array.length_toList,Array.length_toList] at this;simp at this;omega
  .rw[kJ,hc1];exact aS
 have fT:=aoU wV;have fV:=aoU hK;have cO:=aoU hown;clear wV hK hown oV hc1 hs1 wW kJ aS hcell hh hcs ht h hnews;have iS:(i:Int)+1<=(n:Int):=by omega
 have z2:(n:Int)<=(c:Int):=by omega
 have z3:(i:Int)<=(c:Int):=by omega
 have z4:((i:Int)+1).toNat=i+1:=by omega
 have z5:¬((i:Int)=(i:Int)+1):=by omega
 have VU:¬n=i:=by omega
 have VS:(0:Int)<=(i:Int)+1:=by omega
 have VV:(i:Int)+1<=(c:Int):=by omega
 go_enter func254,ntmps254
 go_wp2_with fail;have mixed:prog.follows .mixedOrders=true:=by kernel_rfl
 by_cases jS:c=i+1
 .have hn0:news.length=0:=by rw[hnl];omega
  have hni:n=i+1:=by omega
  have hnil:news= []:=List.length_eq_zero_iff.1 hn0;subst jS;subst hni;have y1:(i:Int)<=(i:Int)+1:=by omega
  have lZ:i<=i+1:=by omega
  go_region_law_o (refine step_append_room rfl (.tmp 22) (.tmp 25) 172 rfl 268 it 2 underlying172 hit Is g 0 i (i+1) (by simp[Act.eval,Act.put]) ⟨g,0,none⟩ 0 0 news (by simp[Act.eval,Act.put]) hn0 (λt u hu=>by rw[hnil] at hu;simp at hu) hone.out (by omega) hspare.out ?_;rw[dV,<- fT.out])
  have E':=λty=>cn ty
  rw[show i+1-1=i by omega,show i+1-i=1 by omega] at E';go_wp2_with fail;go_ret;exact⟨rfl,cO.out,fV.out⟩
 .go_region_law_o (refine step_append_room rfl (.tmp 22) (.tmp 25) 172 rfl 268 it 2 underlying172 hit Is g 0 i c (by simp[Act.eval,Act.put]) ⟨g,(i+1)*2,none⟩ (n-(i+1)) (c-(i+1)) news (by simp[Act.eval,Act.put]) hnl (λt u hu=>by rw[W9];exact hsrc.out t u hu) hone.out (by omega) hspare.out ?_;rw[dV,<- fT.out])
  have e1:i+(n-(i+1))=n-1:=by omega
  simp only[e1];have y1:((n-1:Nat):Int)<=(n:Int):=by omega
  have lZ:((n-1:Nat):Int)<=(c:Int):=by omega
  have wT:(0:Int)<=((n-1:Nat):Int):=by omega
  have oe:¬c=n-1:=by omega
  have vk:n-(n-1)=1:=by omega
  go_wp2_with fail;go_ret;exact⟨rfl,cO.out,fV.out⟩
def lJ(l:List Int):List Value:=l.map λn=> .int .i64 n
theorem Fa(l:List Int):(lJ l).length=l.length:=by simp[lJ]
def CU(l:List dM)(n:Int):Option (List dM):=if l.findIdx (λf=>decide (f.2=n))<l.length then some (l.eraseIdx (l.findIdx λf=>decide (f.2=n))) else none
def Fb:List dM->List Int->Option (List dM)
 |l,[]=>some l
 |l,n::ns=>(CU l n).bind λl'=>Fb l' ns
def cK(x y:Nat):Nat:=if y=0 then x else y
def Ms(j k x y:Nat):Nat:=if j<k then cK x y else x
def Fc(x y:Int):Int:=if y=0 then x else y
theorem nh{w w2:World}{base br:Nat}{e:TypeId}{sz n:Nat}{v:Value}{xs:List Value}(h:w.ownsRow base e sz v n xs)(hg:br<base)(hK:V.af (λg=>g=br) w w2):w2.ownsRow base e sz v n xs:=by
 refine⟨h.1,?_⟩;rcases h.2 with h2|⟨g,cap,cur,hv,hb,hh,r⟩
 .exact .inl h2
 .exact .inr ⟨g,cap,cur,hv,hb,(hK.block g (aB hh) (by show¬g=br;omega)).trans hh,r⟩
theorem lK{w CV w2:World}{br:Nat}(hu:aoV w CV)(hg:w.heap.size<=br)(hK:V.af (λg=>g=br) CV w2):aoV w w2:=
 ⟨hK.os.trans hu.os,hK.tape.trans hu.tape,hK.output.trans hu.output,bQ hu.size hK.size,λk hk=>(hK.block k (cg hk hu.size) (by show¬k=br;omega)).trans (hu.block k hk)⟩
def tB(am:Int)(l:List dM)(f ce at_ le:Nat)(ds:List Int)(add:List dM)(fm:Int)(cX di dB dH:Nat):Option (Int×List dM×Nat×Nat×Nat×Nat):=
 match Fb l ds with
 |none=>none
 |some k=>if wU (Fc am fm) (k++add) (cK f cX) (cK ce di) (cK at_ dB) (cK le dH)=true then some (Fc am fm,k++add,cK f cX,cK ce di,cK at_ dB,cK le dH) else none
def XB(r:Option (Int×List dM×Nat×Nat×Nat×Nat))(w:World)(e:Ending)(w':World):Prop:=
 match r with
 |none=>e= .returned (.tuple #[.agg #[.int .i64 0,.slice none 0 0,.int .u64 0,.int .u64 0,.int .u64 0,.int .u64 0],.bool false])/\aoV w w'
 |some x=>∃R rn,e= .returned (.tuple #[.agg #[.int .i64 x.1,.slice R rn rn,.int .u64 x.2.2.1,.int .u64 x.2.2.2.1,.int .u64 x.2.2.2.2.1,.int .u64 x.2.2.2.2.2],.bool true])/\Rd w' w'.heap.size 2 R rn (dR x.2.1)/\aoV w w'/\∀a,R=some a->w.heap.size<=a.block/\a.block<w'.heap.size
theorem abE{w:World}{base:Nat}{e:TypeId}{sz n c:Nat}{A:Option Addr}{xs:List Value}(h:w.ownsRow base e sz (.slice A n c) n xs):∀a,A=some a->base<=a.block/\a.block<w.heap.size:=by
 rintro a rfl;rcases h.2 with⟨hv,_⟩|⟨g,cap,cur,hv,hb,hg,_⟩
 .cases hv
 .injection hv with hA _ _;injection hA with hA;rw[hA];exact⟨hb,(aB hg)⟩
theorem Mu(w:World)(g:Nat)(a0 a1 a2 a3 a4 a5 v0 v1 v2 v3 v4 v5:Value)(t:TypeId)(h:w.heap[g]?=some (.cells #[a0,a1,a2,a3,a4,a5] t (0,0))):
 ((((((w.setCell ⟨g,0,none⟩ v0).setCell ⟨g,1,none⟩ v1).setCell ⟨g,2,none⟩ v2).setCell ⟨g,3,none⟩ v3).setCell ⟨g,4,none⟩ v4).setCell ⟨g,5,none⟩ v5).heap[g]?=some (.cells #[v0,v1,v2,v3,v4,v5] t (0,0))/\
 V.af (λx=>x=g) w ((((((w.setCell ⟨g,0,none⟩ v0).setCell ⟨g,1,none⟩ v1).setCell ⟨g,2,none⟩ v2).setCell ⟨g,3,none⟩ v3).setCell ⟨g,4,none⟩ v4).setCell ⟨g,5,none⟩ v5):=by
 refine⟨?_,aoZ _ _ _ _ _ (aoZ _ _ _ _ _ (aoZ _ _ _ _ _ (aoZ _ _ _ _ _ (aoZ _ _ _ _ _ (aoZ _ _ _ _ _ (V.af.refl _ _))))))⟩;have h1:=bM _ g 5 v5 _ _ (bM _ g 4 v4 _ _ (bM _ g 3 v3 _ _ (bM _ g 2 v2 _ _ (bM _ g 1 v1 _ _ (bM w g 0 v0 _ _ h)))));exact h1
theorem Iu:jr prog 172 268 2 16:=jr.mk' underlying172 (by kernel_rfl) (z:= .agg #[.int .i64 0,.int .i64 0]) rfl (by decide)
theorem abF(A:Option Addr)(n c:Nat)(w:World)(h:n<=c):Calls prog 255 #[.slice A n c] w λe w'=>e= .returned (.slice A n n)/\w=w':=by
 have iS:(n:Int)<=(c:Int):=by omega
 go_enter func255,ntmps255
 go_wp2_with fail;go_ret;first|exact⟨rfl,rfl⟩|(split <;>exact⟨rfl,rfl⟩)
theorem abG(aE:Nat)(x y:Int)(z:Int)(w:World)(hg:aE<w.heap.size)(hc:w.cell? ⟨aE,0,none⟩=some (.int .i64 z)):
 Calls prog 253 #[.agg #[.int .i64 x,.int .i64 y],.pointer (some ⟨aE,0,none⟩)] w λe w'=>e= .returned (.bool (decide (y=z)))/\aoV w w':=by
 have h0:aoV w (w.alloc (.cells #[.int .i64 x,.int .i64 y] 268)):=(aoV.refl w).alloc _;have kJ:=(h0.cell (p:=⟨aE,0,none⟩) hg).trans hc;have hc1:(w.alloc (.cells #[.int .i64 x,.int .i64 y] 268)).cell? ⟨w.heap.size,1,none⟩=some (.int .i64 y):=by simp
 go_enter func253,ntmps253
 go_wp2_with fail;go_ret;exact⟨rfl,h0⟩
theorem XC(am:Int)(A:Option Addr)(n c:Nat)(l:List dM)(f ce at_ le:Nat)(D:Option Addr)(b9 bX:Nat)(ds:List Int)(iA:Option Addr)(an ac:Nat)(add:List dM)(fm:Int)(cX di dB dH:Nat)(w:World)(hr:Rd w w.heap.size 2 A n (dR l))(hn:n<=1099511627776)(hd:Rd w w.heap.size 1 D b9 (lJ ds))(hdn:b9<=1099511627776)(ha:Rd w w.heap.size 2 iA an (dR add))(kE:an<=1099511627776):
 Calls prog 184 #[.agg #[.int .i64 am,.slice A n c,.int .u64 f,.int .u64 ce,.int .u64 at_,.int .u64 le],.agg #[.slice D b9 bX,.slice iA an ac,.int .i64 fm,.int .u64 cX,.int .u64 di,.int .u64 dB,.int .u64 dH]] w
  (XB (tB am l f ce at_ le ds add fm cX di dB dH) w):=by
 obtain⟨w4,qt⟩:∃w4,w4=(((w.alloc (.cells #[.int .i64 am,.slice A n c,.int .u64 f,.int .u64 ce,.int .u64 at_,.int .u64 le] 202)).alloc (.cells #[.slice D b9 bX,.slice iA an ac,.int .i64 fm,.int .u64 cX,.int .u64 di,.int .u64 dB,.int .u64 dH] 174)).alloc
  (.cells #[.int .i64 0,.slice none 0 0,.int .u64 0,.int .u64 0,.int .u64 0,.int .u64 0] 202)).alloc (.cells #[.int .i64 am,.slice A n c,.int .u64 f,.int .u64 ce,.int .u64 at_,.int .u64 le] 202):=⟨_,rfl⟩
 have zo:aoV w w4:=by rw[qt];exact((((aoV.refl w).alloc _).alloc _).alloc _).alloc _
 have abH:w4.heap.size=w.heap.size+4:=by rw[qt];simp
 have XD:w4.heap[w.heap.size+1]?=some (.cells #[.slice D b9 bX,.slice iA an ac,.int .i64 fm,.int .u64 cX,.int .u64 di,.int .u64 dB,.int .u64 dH] 174 (0,0)):=by
  rw[qt,Below.heap_alloc _ _ _ (by simp),Below.heap_alloc _ _ _ (by simp)];have h:=bp (w.alloc (.cells #[.int .i64 am,.slice A n c,.int .u64 f,.int .u64 ce,.int .u64 at_,.int .u64 le] 202)) (.cells #[.slice D b9 bX,.slice iA an ac,.int .i64 fm,.int .u64 cX,.int .u64 di,.int .u64 dB,.int .u64 dH] 174)
  rwa[fF] at h
 have XE:w4.heap[w.heap.size+1+1]?=some (.cells #[.int .i64 0,.slice none 0 0,.int .u64 0,.int .u64 0,.int .u64 0,.int .u64 0] 202 (0,0)):=by
  rw[qt,Below.heap_alloc _ _ _ (by simp)];have h:=bp ((w.alloc (.cells #[.int .i64 am,.slice A n c,.int .u64 f,.int .u64 ce,.int .u64 at_,.int .u64 le] 202)).alloc (.cells #[.slice D b9 bX,.slice iA an ac,.int .i64 fm,.int .u64 cX,.int .u64 di,.int .u64 dB,.int .u64 dH] 174)) (.cells #[.int .i64 0,.slice none 0 0,.int .u64 0,.int .u64 0,.int .u64 0,.int .u64 0] 202)
  rwa[fF,fF] at h
 have XF:w4.heap[w.heap.size+1+1+1]?=some (.cells #[.int .i64 am,.slice A n c,.int .u64 f,.int .u64 ce,.int .u64 at_,.int .u64 le] 202 (0,0)):=by
  rw[qt];have h:=bp (((w.alloc (.cells #[.int .i64 am,.slice A n c,.int .u64 f,.int .u64 ce,.int .u64 at_,.int .u64 le] 202)).alloc (.cells #[.slice D b9 bX,.slice iA an ac,.int .i64 fm,.int .u64 cX,.int .u64 di,.int .u64 dB,.int .u64 dH] 174)).alloc (.cells #[.int .i64 0,.slice none 0 0,.int .u64 0,.int .u64 0,.int .u64 0,.int .u64 0] 202))
   (.cells #[.int .i64 am,.slice A n c,.int .u64 f,.int .u64 ce,.int .u64 at_,.int .u64 le] 202)
  rwa[fF,fF,fF] at h
 have XG:=aoU qt;clear qt;have CW:=hr.up zo;clear hr;go_enter func184,ntmps184
 go_wp2_with (
  at_builtin;rw[<- XG.out];refine iF _ Iu (fC _ (w.heap.size+4) _ _) CW (Im _) (by omega) (by omega) (by omega) rfl rfl rfl rfl ?_;intro v5 ai dN eh om;obtain⟨bZ,dC,rfl⟩:=eL dN
  rw[dV,gY] at dN;simp only[dV];have Iv:aoV w4 ai:=(aoV.refl w4).grown eh (by intro k h;cases h);have CX:=(Iv.block _ (by omega)).trans XD;have CY:=(Iv.block _ (by omega)).trans XE;have zr:=(Iv.block _ (by omega)).trans XF;have r1:=aoW zr 1;have r2:=ay zr 1;have uq:(ai.setCell ⟨w.heap.size+1+1+1,1,none⟩ (.slice bZ n dC)).heap[w.heap.size+1+1+1]?=some (.cells #[.int .i64 am,.slice bZ n dC,.int .u64 f,.int .u64 ce,.int .u64 at_,.int .u64 le] 202 (0,0)):=bM ai _ 1 _ _ _ zr
  have gU:=aoZ ai ai (w.heap.size+1+1+1) 1 (.slice bZ n dC) (V.af.refl _ _);have yc:=(gU.block _ (aB CX) (by omega)).trans CX;have apf:=(gU.block _ (aB CY) (by omega)).trans CY;have jw:(ai.setCell ⟨w.heap.size+1+1+1,1,none⟩ (.slice bZ n dC)).ownsRow (w.heap.size+4) 268 2 (.slice bZ n dC) n (dR l):=nh dN (by omega) gU;have rY:aoV w (ai.setCell ⟨w.heap.size+1+1+1,1,none⟩ (.slice bZ n dC)):=lK (zo.trans Iv) (by omega) gU;have r3:=aoW yc 0)
 clear r1 r2 r3 CX CY zr gU dN eh om XD XE XF CW Iv XG;have Mw:w.heap.size+4=w.heap.size+1+1+1+1:=rfl;rw[Mw] at jw;generalize ai.setCell ⟨w.heap.size+1+1+1,1,none⟩ (.slice bZ n dC)=cH at *;have o1:w.heap.size<w.heap.size+1:=by omega
 have o2:w.heap.size+1<w.heap.size+1+1:=by omega
 have oW:w.heap.size+1+1<w.heap.size+1+1+1:=by omega
 clear zo abH Mw;generalize w.heap.size+1+1+1=go at *;generalize w.heap.size+1+1=gr at *;generalize w.heap.size+1=ge at *;go_loopw[20] (λi wr=>∃(k:Nat)(cur:List dM)(R:Option Addr)(rn rc:Nat),i= .int .i64 k/\k<=b9/\rn<=n/\aoV w wr/\wr.heap[ge]?=some (.cells #[.slice D b9 bX,.slice iA an ac,.int .i64 fm,.int .u64 cX,.int .u64 di,.int .u64 dB,.int .u64 dH] 174 (0,0))/\
  wr.heap[gr]?=some (.cells #[.int .i64 0,.slice none 0 0,.int .u64 0,.int .u64 0,.int .u64 0,.int .u64 0] 202 (0,0))/\wr.heap[go]?=some (.cells #[.int .i64 am,.slice R rn rc,.int .u64 f,.int .u64 ce,.int .u64 at_,.int .u64 le] 202 (0,0))/\
  wr.ownsRow (go+1) 268 2 (.slice R rn rc) rn (dR cur)/\Hid (Fb cur (ds.drop k)=Fb l ds)) (λi _=>b9-(intOf i).toNat)
 case atStart=>exact⟨0,l,bZ,n,dC,rfl,by omega,by omega,rY,yc,apf,uq,jw,rfl⟩
 case round=>
  obtain⟨k,cur,R,rn,rc,rfl,hk,jW,cj,Fd,ni,gZ,hown,Mx⟩:=hrel;clear rY yc apf uq jw;by_cases hlt:k<b9
  .have hdl:b9=ds.length:=by have:=hd.1;rw[Fa] at this;omega
   obtain⟨b,o,rfl,hb,hc⟩:=hd.2 (by omega);have pO:wr.cell? ⟨b,o+k,none⟩=some (.int .i64 (ds[k]'(by omega))):=(cj.cell (p:=⟨b,o+k,none⟩) hb).trans (hc k _ (by simp[lJ,show k<ds.length by omega]));have hdk:ds.drop k=ds[k]'(by omega)::ds.drop (k+1):=List.drop_eq_getElem_cons (by omega);generalize ds[k]'(by omega)=x at pO hdk;have XH:=aoU hdk;clear hc hdk hdl;have aX:aoV wr (wr.alloc (.cells #[.int .i64 x] 3)):=(aoV.refl wr).alloc _;have hcb:(wr.alloc (.cells #[.int .i64 x] 3)).cell? ⟨wr.heap.size,0,none⟩=some (.int .i64 x):=by simp
   have hlb:wr.heap.size<(wr.alloc (.cells #[.int .i64 x] 3)).heap.size:=by simp
   have q1:(wr.alloc (.cells #[.int .i64 x] 3)).cell? ⟨go,1,none⟩=some (.slice R rn rc):=(aX.cell (p:=⟨go,1,none⟩) (aB gZ)).trans (aoW gZ 1);have gQ:=Xt 253 #[.pointer (some ⟨wr.heap.size,0,none⟩)] (λf=>decide (f.2=x)) R rn rc cur (wr.alloc (.cells #[.int .i64 x] 3)) ((Rd.own hown).up aX) (by omega) (λ_ _=>rfl)
    (λW y hW=>abG wr.heap.size y.1 y.2 x W (by have:=hW.size;omega) ((hW.cell (p:=⟨wr.heap.size,0,none⟩) hlb).trans hcb))
   go_wp2_with fail;clear q1;refine gQ.mono ?_;rintro e w7⟨rfl,uo⟩;have AV:=aX.trans uo;clear gQ hcb hlb aX uo pO;have CZ:=(fP AV Fd);have tC:=(fP AV ni);have AW:=(fP AV gZ);have vn:=el hown AV;have vo:=cj.trans AV;clear Fd ni gZ hown cj AV;by_cases cm:cur.findIdx (λf=>decide (f.2=x))<cur.length
   .have Iw:nP (λf:dM=>decide (f.2=x)) cur=((cur.findIdx (λf=>decide (f.2=x)):Nat):Int):=by unfold nP;rw[if_pos cm]
    have hdf:CU cur x=some (cur.eraseIdx (cur.findIdx λf=>decide (f.2=x))):=by unfold CU;rw[if_pos cm]
    rw[Iw];clear Iw;have My:=aoU hdf;clear hdf;generalize cur.findIdx (λf=>decide (f.2=x))=j at *;have hlen:rn=cur.length:=by have:=vn.1;rw[AU] at this;omega
    obtain⟨g,rfl,hgb,eG⟩:=El vn (by omega);have q1:=aoW AW 1;have cP:=ay AW 1;have hjl:j<rn:=by omega
    clear hlen cm;go_wp2_with fail;refine(abC g rn rc (go+1) cur j w7 vn hjl).mono ?_;rintro e dY⟨rfl,Ix,pP⟩;clear q1 cP;have XI:=(pP.block _ (aB CZ) (by omega)).trans CZ;have XJ:=(pP.block _ (aB tC) (by omega)).trans tC;have QE:=(pP.block _ (aB AW) (by omega)).trans AW;have QF:aoV w dY:=lK vo (by omega) pP;clear CZ tC AW vn vo pP;have q1:=aoW QE 1;have cP:=ay QE 1
    have Mz:(dY.setCell ⟨go,1,none⟩ (.slice (some ⟨g,0,none⟩) (rn-1) rc)).heap[go]?=some (.cells #[.int .i64 am,.slice (some ⟨g,0,none⟩) (rn-1) rc,.int .u64 f,.int .u64 ce,.int .u64 at_,.int .u64 le] 202 (0,0)):=bM dY _ 1 _ _ _ QE;have kK:=aoZ dY dY go 1 (.slice (some ⟨g,0,none⟩) (rn-1) rc) (V.af.refl _ _);have abI:=(kK.block _ (aB XI) (by omega)).trans XI;have MA:=(kK.block _ (aB XJ) (by omega)).trans XJ;have C0:=nh Ix (by omega) kK;have jb:=lK QF (by omega) kK;clear kK
    go_wp2_with fail;clear q1 cP;generalize dY.setCell ⟨go,1,none⟩ (.slice (some ⟨g,0,none⟩) (rn-1) rc)=ag at *;go_roundw
    case rel=>
     refine⟨k+1,cur.eraseIdx j,some ⟨g,0,none⟩,rn-1,rc,by go_num,by omega,by omega,jb,abI,MA,Mz,C0,?_⟩;show _=_;rw[<- Mx.out,XH.out];show _=(CU cur x).bind _;rw[My.out];rfl
    case measure=>simp[intOf];omega
   .have Iw:nP (λf:dM=>decide (f.2=x)) cur= -1:=by unfold nP;rw[if_neg cm]
    have hdf:CU cur x=none:=by unfold CU;rw[if_neg cm]
    rw[Iw];clear Iw cm;have hno:Fb l ds=none:=by
     rw[<- Mx.out,XH.out];show(CU cur x).bind _=_;rw[hdf];rfl
    have nL:=aoU hno;clear hno hdf;obtain⟨t0,t1,t2,t3,t4,t5⟩:=iQ tC;have jd:=ay tC 0;have s1:=ay tC 1;have s2:=ay tC 2;have s3:=ay tC 3;have dP:=ay tC 4;have jy:=ay tC 5;have h6:=Mu w7 gr _ _ _ _ _ _ (.int .i64 0) (.slice none 0 0) (.int .u64 0) (.int .u64 0) (.int .u64 0) (.int .u64 0) _ tC;go_wp2_with fail;clear t0 t1 t2 t3 t4 t5 jd s1 s2 s3 dP jy
    generalize (((((w7.setCell ⟨gr,0,none⟩ (.int .i64 0)).setCell ⟨gr,1,none⟩ (.slice none 0 0)).setCell ⟨gr,2,none⟩ (.int .u64 0)).setCell ⟨gr,3,none⟩ (.int .u64 0)).setCell ⟨gr,4,none⟩ (.int .u64 0)).setCell ⟨gr,5,none⟩ (.int .u64 0)=dY at *;obtain⟨h6,pP⟩:=h6;obtain⟨t0,t1,t2,t3,t4,t5⟩:=iQ h6;have QF:aoV w dY:=lK vo (by omega) pP
    refine dm (v:= .tuple #[.agg #[.int .i64 0,.slice none 0 0,.int .u64 0,.int .u64 0,.int .u64 0,.int .u64 0],.bool false]) (by simp[results,results184,go_sem,t0,t1,t2,t3,t4,t5]) rfl ?_;have hR:tB am l f ce at_ le ds add fm cX di dB dH=none:=by unfold tB;rw[nL.out]
    rw[hR];exact⟨rfl,QF⟩
  .have wz:k=ds.length:=by have:=hd.1;rw[Fa] at this;omega
   have AX:Fb l ds=some cur:=by rw[<- Mx.out,wz,List.drop_length];rfl
   have XK:=aoU AX;clear wz AX Mx;have XL:=ha.up cj;have hlo:=hown.lt;have q1:=aoW gZ 1;have cP:=aoW Fd 1;go_wp2_with (first
    |(
     at_builtin;refine iF _ Iu hown XL (Im _) (by omega) (by omega) (by have:=aB gZ;omega) rfl rfl rfl rfl ?_;intro v5 ai dN eh om;obtain⟨bZ,dC,rfl⟩:=eL dN
     rw[<- Qy] at dN;have CX:=(eh.block ge (aB Fd) (λe0=>by have:=(hlo ge e0.symm).1;omega)).trans Fd;have CY:=(eh.block gr (aB ni) (λe0=>by have:=(hlo gr e0.symm).1;omega)).trans ni;have zr:=(eh.block go (aB gZ) (λe0=>by have:=(hlo go e0.symm).1;omega)).trans gZ;have nT:aoV w ai:=cj.grown eh (λk0 e0=>by have:=(hlo k0 e0).1;omega);have abJ:=sH dN)
    |fail)
   refine(abF bZ (rn+an) dC ai abJ).mono ?_;rintro e cH⟨rfl,rfl⟩;have r1:=aoW zr 1;have r2:=ay zr 1;have uq:(ai.setCell ⟨go,1,none⟩ (.slice bZ (rn+an) (rn+an))).heap[go]?=some (.cells #[.int .i64 am,.slice bZ (rn+an) (rn+an),.int .u64 f,.int .u64 ce,.int .u64 at_,.int .u64 le] 202 (0,0)):=bM ai _ 1 _ _ _ zr;have gU:=aoZ ai ai go 1 (.slice bZ (rn+an) (rn+an)) (V.af.refl _ _);have yc:=(gU.block _ (aB CX) (by omega)).trans CX
   have apf:=(gU.block _ (aB CY) (by omega)).trans CY;have jw:=nh dN (by omega) gU;have rY:=lK nT (by omega) gU;clear gU CX CY zr dN nT Fd ni gZ hown cj q1 cP XL hlo om eh;obtain⟨-,-,r3,iK,ki,iV,apb⟩:=pw yc;by_cases hel:fm=0;case' pos=>
    have C3:Fc am fm=am:=by unfold Fc;rw[if_pos hel]
    have QG:(fm !=0)=false:=by simp[hel]
    have QH:(ai.setCell ⟨go,1,none⟩ (.slice bZ (rn+an) (rn+an))).heap.size=ai.heap.size:=by simp[World.setCell]
    go_wp2_with fail;clear r1 r2 r3 iK ki iV apb;generalize ai.setCell ⟨go,1,none⟩ (.slice bZ (rn+an) (rn+an))=dY at *;obtain⟨L,hL⟩:=bB am
    rw[<- hL] at uq;replace C3:=C3.trans hL.symm;clear hL QG hel
   case' neg=>
    have C3:Fc am fm=fm:=by unfold Fc;rw[if_neg hel]
    have QG:(fm !=0)=true:=by simp[hel]
    have QH:((ai.setCell ⟨go,1,none⟩ (.slice bZ (rn+an) (rn+an))).setCell ⟨go,0,none⟩ (.int .i64 fm)).heap.size=ai.heap.size:=by simp[World.setCell]
    have u1:=aoW uq 0;have u2:=ay uq 0;have AW:((ai.setCell ⟨go,1,none⟩ (.slice bZ (rn+an) (rn+an))).setCell ⟨go,0,none⟩ (.int .i64 fm)).heap[go]?=some (.cells #[.int .i64 fm,.slice bZ (rn+an) (rn+an),.int .u64 f,.int .u64 ce,.int .u64 at_,.int .u64 le] 202 (0,0)):=bM _ _ 0 _ _ _ uq;have oo:=aoZ (ai.setCell ⟨go,1,none⟩ (.slice bZ (rn+an) (rn+an))) (ai.setCell ⟨go,1,none⟩ (.slice bZ (rn+an) (rn+an))) go 0 (.int .i64 fm) (V.af.refl _ _);have CZ:=(oo.block _ (aB yc) (by omega)).trans yc
    have tC:=(oo.block _ (aB apf) (by omega)).trans apf;have vn:=nh jw (by omega) oo;have vo:=lK rY (by omega) oo;clear yc apf uq jw rY oo;obtain⟨-,-,-,iK,ki,iV,apb⟩:=pw CZ;go_wp2_with fail;clear r1 r2 r3 iK ki iV apb u1 u2;generalize (ai.setCell ⟨go,1,none⟩ (.slice bZ (rn+an) (rn+an))).setCell ⟨go,0,none⟩ (.int .i64 fm)=dY at *;have yc:=CZ;have apf:=tC;have uq:=AW;have jw:=vn;have rY:=vo;clear CZ tC AW vn vo
    obtain⟨L,hL⟩:=bB fm
    rw[<- hL] at uq;replace C3:=C3.trans hL.symm;clear hL QG hel
   all_goals
    have MB:=aoU C3;clear C3;have QI:(dY.alloc (.cells #[.int .u64 cX,.pointer (some ⟨go,2,none⟩),.int .u64 di,.pointer (some ⟨go,3,none⟩),.int .u64 dB,.pointer (some ⟨go,4,none⟩),.int .u64 dH,.pointer (some ⟨go,5,none⟩)] 361)).heap[dY.heap.size]?=
     some (.cells #[.int .u64 cX,.pointer (some ⟨go,2,none⟩),.int .u64 di,.pointer (some ⟨go,3,none⟩),.int .u64 dB,.pointer (some ⟨go,4,none⟩),.int .u64 dH,.pointer (some ⟨go,5,none⟩)] 361 (0,0)):=bp _ _
    have ot:aoV dY (dY.alloc (.cells #[.int .u64 cX,.pointer (some ⟨go,2,none⟩),.int .u64 di,.pointer (some ⟨go,3,none⟩),.int .u64 dB,.pointer (some ⟨go,4,none⟩),.int .u64 dH,.pointer (some ⟨go,5,none⟩)] 361)):=(aoV.refl dY).alloc _;have MA:=(fP ot apf);have Mz:=(fP ot uq);have C0:=el jw ot;have jb:=rY.trans ot;have Iy:¬dY.heap.size=go:=by have:=aB uq;omega
    generalize dY.alloc (.cells #[.int .u64 cX,.pointer (some ⟨go,2,none⟩),.int .u64 di,.pointer (some ⟨go,3,none⟩),.int .u64 dB,.pointer (some ⟨go,4,none⟩),.int .u64 dH,.pointer (some ⟨go,5,none⟩)] 361)=ag at *;rw[QH] at QI Iy;generalize ai.heap.size=abK at *;clear QH apf uq jw rY yc ot;go_loopw[70] (λi wr=>∃k:Nat,i= .int .i64 k/\k<=4/\aoV w wr/\wr.heap[gr]?=some (.cells #[.int .i64 0,.slice none 0 0,.int .u64 0,.int .u64 0,.int .u64 0,.int .u64 0] 202 (0,0))/\
     wr.heap[go]?=some (.cells #[.int .i64 L,.slice bZ (rn+an) (rn+an),.int .u64 ((Ms 0 k f cX:Nat):Int),.int .u64 ((Ms 1 k ce di:Nat):Int),.int .u64 ((Ms 2 k at_ dB:Nat):Int),.int .u64 ((Ms 3 k le dH:Nat):Int)] 202 (0,0))/\
     wr.heap[abK]?=some (.cells #[.int .u64 cX,.pointer (some ⟨go,2,none⟩),.int .u64 di,.pointer (some ⟨go,3,none⟩),.int .u64 dB,.pointer (some ⟨go,4,none⟩),.int .u64 dH,.pointer (some ⟨go,5,none⟩)] 361 (0,0))/\wr.ownsRow (go+1) 268 2 (.slice bZ (rn+an) dC) (rn+an) (dR (cur++add))) (λi _=>4-(intOf i).toNat)
    case atStart=>exact⟨0,rfl,by omega,jb,MA,Mz,QI,C0⟩
    case round=>
     obtain⟨k,rfl,Iz,cj,ni,gZ,hL,hown⟩:=hrel;clear jb MA Mz QI C0;have hcases:k=0\/k=1\/k=2\/k=3\/k=4:=by omega
     rcases hcases with rfl|rfl|rfl|rfl|rfl
     .have wX:wr.heap[go]?=some (.cells #[.int .i64 L,.slice bZ (rn+an) (rn+an),.int .u64 ((f:Nat):Int),.int .u64 ((ce:Nat):Int),.int .u64 ((at_:Nat):Int),.int .u64 ((le:Nat):Int)] 202 (0,0)):=gZ;clear gZ;have q0:=aoW hL 0;have q1:=aoW hL 1;have aX:aoV wr (wr.alloc (.cells #[.int .u64 cX,.pointer (some ⟨go,2,none⟩)] 361)):=(aoV.refl wr).alloc _;have mC:(wr.alloc (.cells #[.int .u64 cX,.pointer (some ⟨go,2,none⟩)] 361)).heap[wr.heap.size]?=some (.cells #[.int .u64 cX,.pointer (some ⟨go,2,none⟩)] 361 (0,0)):=bp _ _;have cP:=aoW mC 0;have dQ:=aoW mC 1
      have ku:=(fP aX ni);have oX:=(fP aX wX);have rZ:=(fP aX hL);have kA:=el hown aX;have jH:=cj.trans aX;by_cases hz:cX=0
      .have C6:((cX:Int) !=0)=false:=by simp[hz]
       have C7:(cX !=0)=false:=by simp[hz]
       have mT:cK f cX=f:=by unfold cK;rw[if_pos hz]
       have jh:=aoU hz;have sa:=aoU mT;clear hz mT;go_wp2_with fail;clear q0 q1 cP dQ;go_roundw
       case rel=>
        refine⟨0+1,by go_num,by omega,jH,ku,?_,rZ,kA⟩;show _=some (Obj.cells #[.int .i64 L,.slice bZ (rn+an) (rn+an),.int .u64 (((cK f cX):Nat):Int),.int .u64 ((ce:Nat):Int),.int .u64 ((at_:Nat):Int),.int .u64 ((le:Nat):Int)] 202 (0,0));rw[sa.out];exact oX
       case measure=>simp[intOf]
      .have C6:((cX:Int) !=0)=true:=by simp[hz]
       have C7:(cX !=0)=true:=by simp[hz]
       have mT:cK f cX=cX:=by unfold cK;rw[if_neg hz]
       have jh:=aoU hz;have sa:=aoU mT;clear hz mT;have eX:=aoW oX 2;have fM:=ay oX 2;have C8:((wr.alloc (.cells #[.int .u64 cX,.pointer (some ⟨go,2,none⟩)] 361)).setCell ⟨go,2,none⟩ (.int .u64 cX)).heap[go]?=some (.cells #[.int .i64 L,.slice bZ (rn+an) (rn+an),.int .u64 ((cX:Nat):Int),.int .u64 ((ce:Nat):Int),.int .u64 ((at_:Nat):Int),.int .u64 ((le:Nat):Int)] 202 (0,0)):=bM _ _ 2 _ _ _ oX
       have fI:=aoZ (wr.alloc (.cells #[.int .u64 cX,.pointer (some ⟨go,2,none⟩)] 361)) (wr.alloc (.cells #[.int .u64 cX,.pointer (some ⟨go,2,none⟩)] 361)) go 2 (.int .u64 cX) (V.af.refl _ _);have nH:=(fI.block _ (aB ku) (by omega)).trans ku;have vp:=(fI.block _ (aB rZ) Iy).trans rZ;have ao5:=nh kA (by omega) fI;have jI:=lK jH (by omega) fI;go_wp2_with fail;clear q0 q1 cP dQ eX fM;go_roundw
       case rel=>
        refine⟨0+1,by go_num,by omega,jI,nH,?_,vp,ao5⟩;show _=some (Obj.cells #[.int .i64 L,.slice bZ (rn+an) (rn+an),.int .u64 (((cK f cX):Nat):Int),.int .u64 ((ce:Nat):Int),.int .u64 ((at_:Nat):Int),.int .u64 ((le:Nat):Int)] 202 (0,0));rw[sa.out];exact C8
       case measure=>simp[intOf]
     .have wX:wr.heap[go]?=some (.cells #[.int .i64 L,.slice bZ (rn+an) (rn+an),.int .u64 (((cK f cX):Nat):Int),.int .u64 ((ce:Nat):Int),.int .u64 ((at_:Nat):Int),.int .u64 ((le:Nat):Int)] 202 (0,0)):=gZ;clear gZ;have q0:=aoW hL 2;have q1:=aoW hL 3;have aX:aoV wr (wr.alloc (.cells #[.int .u64 di,.pointer (some ⟨go,3,none⟩)] 361)):=(aoV.refl wr).alloc _;have mC:(wr.alloc (.cells #[.int .u64 di,.pointer (some ⟨go,3,none⟩)] 361)).heap[wr.heap.size]?=some (.cells #[.int .u64 di,.pointer (some ⟨go,3,none⟩)] 361 (0,0)):=bp _ _;have cP:=aoW mC 0
      have dQ:=aoW mC 1;have ku:=(fP aX ni);have oX:=(fP aX wX);have rZ:=(fP aX hL);have kA:=el hown aX;have jH:=cj.trans aX;by_cases hz:di=0
      .have C6:((di:Int) !=0)=false:=by simp[hz]
       have C7:(di !=0)=false:=by simp[hz]
       have mT:cK ce di=ce:=by unfold cK;rw[if_pos hz]
       have jh:=aoU hz;have sa:=aoU mT;clear hz mT;go_wp2_with fail;clear q0 q1 cP dQ;go_roundw
       case rel=>
        refine⟨1+1,by go_num,by omega,jH,ku,?_,rZ,kA⟩;show _=some (Obj.cells #[.int .i64 L,.slice bZ (rn+an) (rn+an),.int .u64 (((cK f cX):Nat):Int),.int .u64 (((cK ce di):Nat):Int),.int .u64 ((at_:Nat):Int),.int .u64 ((le:Nat):Int)] 202 (0,0));rw[sa.out];exact oX
       case measure=>simp[intOf]
      .have C6:((di:Int) !=0)=true:=by simp[hz]
       have C7:(di !=0)=true:=by simp[hz]
       have mT:cK ce di=di:=by unfold cK;rw[if_neg hz]
       have jh:=aoU hz;have sa:=aoU mT;clear hz mT;have eX:=aoW oX 3;have fM:=ay oX 3;have C8:((wr.alloc (.cells #[.int .u64 di,.pointer (some ⟨go,3,none⟩)] 361)).setCell ⟨go,3,none⟩ (.int .u64 di)).heap[go]?=some (.cells #[.int .i64 L,.slice bZ (rn+an) (rn+an),.int .u64 (((cK f cX):Nat):Int),.int .u64 ((di:Nat):Int),.int .u64 ((at_:Nat):Int),.int .u64 ((le:Nat):Int)] 202 (0,0)):=bM _ _ 3 _ _ _ oX
       have fI:=aoZ (wr.alloc (.cells #[.int .u64 di,.pointer (some ⟨go,3,none⟩)] 361)) (wr.alloc (.cells #[.int .u64 di,.pointer (some ⟨go,3,none⟩)] 361)) go 3 (.int .u64 di) (V.af.refl _ _);have nH:=(fI.block _ (aB ku) (by omega)).trans ku;have vp:=(fI.block _ (aB rZ) Iy).trans rZ;have ao5:=nh kA (by omega) fI;have jI:=lK jH (by omega) fI;go_wp2_with fail;clear q0 q1 cP dQ eX fM;go_roundw
       case rel=>
        refine⟨1+1,by go_num,by omega,jI,nH,?_,vp,ao5⟩;show _=some (Obj.cells #[.int .i64 L,.slice bZ (rn+an) (rn+an),.int .u64 (((cK f cX):Nat):Int),.int .u64 (((cK ce di):Nat):Int),.int .u64 ((at_:Nat):Int),.int .u64 ((le:Nat):Int)] 202 (0,0));rw[sa.out];exact C8
       case measure=>simp[intOf]
     .have wX:wr.heap[go]?=some (.cells #[.int .i64 L,.slice bZ (rn+an) (rn+an),.int .u64 (((cK f cX):Nat):Int),.int .u64 (((cK ce di):Nat):Int),.int .u64 ((at_:Nat):Int),.int .u64 ((le:Nat):Int)] 202 (0,0)):=gZ;clear gZ;have q0:=aoW hL 4;have q1:=aoW hL 5;have aX:aoV wr (wr.alloc (.cells #[.int .u64 dB,.pointer (some ⟨go,4,none⟩)] 361)):=(aoV.refl wr).alloc _;have mC:(wr.alloc (.cells #[.int .u64 dB,.pointer (some ⟨go,4,none⟩)] 361)).heap[wr.heap.size]?=some (.cells #[.int .u64 dB,.pointer (some ⟨go,4,none⟩)] 361 (0,0)):=bp _ _;have cP:=aoW mC 0
      have dQ:=aoW mC 1;have ku:=(fP aX ni);have oX:=(fP aX wX);have rZ:=(fP aX hL);have kA:=el hown aX;have jH:=cj.trans aX;by_cases hz:dB=0
      .have C6:((dB:Int) !=0)=false:=by simp[hz]
       have C7:(dB !=0)=false:=by simp[hz]
       have mT:cK at_ dB=at_:=by unfold cK;rw[if_pos hz]
       have jh:=aoU hz;have sa:=aoU mT;clear hz mT;go_wp2_with fail;clear q0 q1 cP dQ;go_roundw
       case rel=>
        refine⟨2+1,by go_num,by omega,jH,ku,?_,rZ,kA⟩;show _=some (Obj.cells #[.int .i64 L,.slice bZ (rn+an) (rn+an),.int .u64 (((cK f cX):Nat):Int),.int .u64 (((cK ce di):Nat):Int),.int .u64 (((cK at_ dB):Nat):Int),.int .u64 ((le:Nat):Int)] 202 (0,0));rw[sa.out];exact oX
       case measure=>simp[intOf]
      .have C6:((dB:Int) !=0)=true:=by simp[hz]
       have C7:(dB !=0)=true:=by simp[hz]
       have mT:cK at_ dB=dB:=by unfold cK;rw[if_neg hz]
       have jh:=aoU hz;have sa:=aoU mT;clear hz mT;have eX:=aoW oX 4;have fM:=ay oX 4;have C8:((wr.alloc (.cells #[.int .u64 dB,.pointer (some ⟨go,4,none⟩)] 361)).setCell ⟨go,4,none⟩ (.int .u64 dB)).heap[go]?=some (.cells #[.int .i64 L,.slice bZ (rn+an) (rn+an),.int .u64 (((cK f cX):Nat):Int),.int .u64 (((cK ce di):Nat):Int),.int .u64 ((dB:Nat):Int),.int .u64 ((le:Nat):Int)] 202 (0,0)):=bM _ _ 4 _ _ _ oX
       have fI:=aoZ (wr.alloc (.cells #[.int .u64 dB,.pointer (some ⟨go,4,none⟩)] 361)) (wr.alloc (.cells #[.int .u64 dB,.pointer (some ⟨go,4,none⟩)] 361)) go 4 (.int .u64 dB) (V.af.refl _ _);have nH:=(fI.block _ (aB ku) (by omega)).trans ku;have vp:=(fI.block _ (aB rZ) Iy).trans rZ;have ao5:=nh kA (by omega) fI;have jI:=lK jH (by omega) fI;go_wp2_with fail;clear q0 q1 cP dQ eX fM;go_roundw
       case rel=>
        refine⟨2+1,by go_num,by omega,jI,nH,?_,vp,ao5⟩;show _=some (Obj.cells #[.int .i64 L,.slice bZ (rn+an) (rn+an),.int .u64 (((cK f cX):Nat):Int),.int .u64 (((cK ce di):Nat):Int),.int .u64 (((cK at_ dB):Nat):Int),.int .u64 ((le:Nat):Int)] 202 (0,0));rw[sa.out];exact C8
       case measure=>simp[intOf]
     .have wX:wr.heap[go]?=some (.cells #[.int .i64 L,.slice bZ (rn+an) (rn+an),.int .u64 (((cK f cX):Nat):Int),.int .u64 (((cK ce di):Nat):Int),.int .u64 (((cK at_ dB):Nat):Int),.int .u64 ((le:Nat):Int)] 202 (0,0)):=gZ;clear gZ;have q0:=aoW hL 6;have q1:=aoW hL 7;have aX:aoV wr (wr.alloc (.cells #[.int .u64 dH,.pointer (some ⟨go,5,none⟩)] 361)):=(aoV.refl wr).alloc _;have mC:(wr.alloc (.cells #[.int .u64 dH,.pointer (some ⟨go,5,none⟩)] 361)).heap[wr.heap.size]?=some (.cells #[.int .u64 dH,.pointer (some ⟨go,5,none⟩)] 361 (0,0)):=bp _ _
      have cP:=aoW mC 0;have dQ:=aoW mC 1;have ku:=(fP aX ni);have oX:=(fP aX wX);have rZ:=(fP aX hL);have kA:=el hown aX;have jH:=cj.trans aX;by_cases hz:dH=0
      .have C6:((dH:Int) !=0)=false:=by simp[hz]
       have C7:(dH !=0)=false:=by simp[hz]
       have mT:cK le dH=le:=by unfold cK;rw[if_pos hz]
       have jh:=aoU hz;have sa:=aoU mT;clear hz mT;go_wp2_with fail;clear q0 q1 cP dQ;go_roundw
       case rel=>
        refine⟨3+1,by go_num,by omega,jH,ku,?_,rZ,kA⟩;show _=some (Obj.cells #[.int .i64 L,.slice bZ (rn+an) (rn+an),.int .u64 (((cK f cX):Nat):Int),.int .u64 (((cK ce di):Nat):Int),.int .u64 (((cK at_ dB):Nat):Int),.int .u64 (((cK le dH):Nat):Int)] 202 (0,0));rw[sa.out];exact oX
       case measure=>simp[intOf]
      .have C6:((dH:Int) !=0)=true:=by simp[hz]
       have C7:(dH !=0)=true:=by simp[hz]
       have mT:cK le dH=dH:=by unfold cK;rw[if_neg hz]
       have jh:=aoU hz;have sa:=aoU mT;clear hz mT;have eX:=aoW oX 5;have fM:=ay oX 5;have C8:((wr.alloc (.cells #[.int .u64 dH,.pointer (some ⟨go,5,none⟩)] 361)).setCell ⟨go,5,none⟩ (.int .u64 dH)).heap[go]?=some (.cells #[.int .i64 L,.slice bZ (rn+an) (rn+an),.int .u64 (((cK f cX):Nat):Int),.int .u64 (((cK ce di):Nat):Int),.int .u64 (((cK at_ dB):Nat):Int),.int .u64 ((dH:Nat):Int)] 202 (0,0)):=bM _ _ 5 _ _ _ oX
       have fI:=aoZ (wr.alloc (.cells #[.int .u64 dH,.pointer (some ⟨go,5,none⟩)] 361)) (wr.alloc (.cells #[.int .u64 dH,.pointer (some ⟨go,5,none⟩)] 361)) go 5 (.int .u64 dH) (V.af.refl _ _);have nH:=(fI.block _ (aB ku) (by omega)).trans ku;have vp:=(fI.block _ (aB rZ) Iy).trans rZ;have ao5:=nh kA (by omega) fI;have jI:=lK jH (by omega) fI;go_wp2_with fail;clear q0 q1 cP dQ eX fM;go_roundw
       case rel=>
        refine⟨3+1,by go_num,by omega,jI,nH,?_,vp,ao5⟩;show _=some (Obj.cells #[.int .i64 L,.slice bZ (rn+an) (rn+an),.int .u64 (((cK f cX):Nat):Int),.int .u64 (((cK ce di):Nat):Int),.int .u64 (((cK at_ dB):Nat):Int),.int .u64 (((cK le dH):Nat):Int)] 202 (0,0));rw[sa.out];exact C8
       case measure=>simp[intOf]
     .have wX:wr.heap[go]?=some (.cells #[.int .i64 L,.slice bZ (rn+an) (rn+an),.int .u64 ((cK f cX:Nat):Int),.int .u64 ((cK ce di:Nat):Int),.int .u64 ((cK at_ dB:Nat):Int),.int .u64 ((cK le dH:Nat):Int)] 202 (0,0)):=gZ;clear gZ;obtain⟨q0,q1,cP,dQ,eX,fM⟩:=iQ wX;go_wp2_with fail;clear q0 q1 cP dQ eX fM;refine(Xw L bZ (rn+an) (rn+an) (cur++add) (cK f cX) (cK ce di) (cK at_ dB) (cK le dH) wr (Rd.own hown) (aZ _) (by omega)).mono ?_
      rintro e je⟨rfl,yd⟩;have ru:=(fP yd ni);have MC:=(fP yd wX);have XM:=el hown yd;have nU:=cj.trans yd;clear ni wX hown cj yd hL;obtain⟨bo,C9⟩:=bB (wU L (cur++add) (cK f cX) (cK ce di) (cK at_ dB) (cK le dH))
      rw[<- C9];have XN:=aoU C9;clear C9;cases bo
      .clear MC XM;have h6:=Mu je gr _ _ _ _ _ _ (.int .i64 0) (.slice none 0 0) (.int .u64 0) (.int .u64 0) (.int .u64 0) (.int .u64 0) _ ru;obtain⟨t0,t1,t2,t3,t4,t5⟩:=iQ ru;have jd:=ay ru 0;have s1:=ay ru 1;have s2:=ay ru 2;have s3:=ay ru 3;have dP:=ay ru 4;have jy:=ay ru 5;go_wp2_with fail;clear t0 jd t1 s1 t2 s2 t3 s3 t4 dP t5 jy
       generalize (((((je.setCell ⟨gr,0,none⟩ (.int .i64 0)).setCell ⟨gr,1,none⟩ (.slice none 0 0)).setCell ⟨gr,2,none⟩ (.int .u64 0)).setCell ⟨gr,3,none⟩ (.int .u64 0)).setCell ⟨gr,4,none⟩ (.int .u64 0)).setCell ⟨gr,5,none⟩ (.int .u64 0)=fE at *;obtain⟨h6,MD⟩:=h6;obtain⟨t0,t1,t2,t3,t4,t5⟩:=iQ h6;have QJ:aoV w fE:=lK nU (by omega) MD
       refine dm (v:= .tuple #[.agg #[.int .i64 0,.slice none 0 0,.int .u64 0,.int .u64 0,.int .u64 0,.int .u64 0],.bool false]) (by simp[results,results184,go_sem,t0,t1,t2,t3,t4,t5]) rfl ?_;have hR:tB am l f ce at_ le ds add fm cX di dB dH=none:=by
        unfold tB;rw[XK.out];simp only[];rw[MB.out,<- XN.out];rfl
       rw[hR];exact⟨rfl,QJ⟩
      .
       have h6:=Mu je gr _ _ _ _ _ _ (.int .i64 L) (.slice bZ (rn+an) (rn+an)) (.int .u64 ((cK f cX:Nat):Int)) (.int .u64 ((cK ce di:Nat):Int)) (.int .u64 ((cK at_ dB:Nat):Int)) (.int .u64 ((cK le dH:Nat):Int)) _ ru;obtain⟨t0,t1,t2,t3,t4,t5⟩:=iQ ru;have jd:=ay ru 0;have s1:=ay ru 1;have s2:=ay ru 2;have s3:=ay ru 3;have dP:=ay ru 4;have jy:=ay ru 5;have g0:=aoW MC 0;have g1:=aoW MC 1
       obtain⟨-,-,g2,g3,g4,g5⟩:=iQ MC;go_wp2_with fail;clear t0 jd t1 s1 t2 s2 t3 s3 t4 dP t5 jy g0 g1 g2 g3 g4 g5;generalize (((((je.setCell ⟨gr,0,none⟩ (.int .i64 L)).setCell ⟨gr,1,none⟩ (.slice bZ (rn+an) (rn+an))).setCell ⟨gr,2,none⟩ (.int .u64 ((cK f cX:Nat):Int))).setCell ⟨gr,3,none⟩ (.int .u64 ((cK ce di:Nat):Int))).setCell ⟨gr,4,none⟩ (.int .u64 ((cK at_ dB:Nat):Int))).setCell ⟨gr,5,none⟩ (.int .u64 ((cK le dH:Nat):Int))=fE at *;obtain⟨h6,MD⟩:=h6;have t0:=aoW h6 0;have t1:=aoW h6 1
       obtain⟨-,-,t2,t3,t4,t5⟩:=iQ h6;have QJ:aoV w fE:=lK nU (by omega) MD;have XO:=nh XM (by omega) MD;refine dm (v:= .tuple #[.agg #[.int .i64 L,.slice bZ (rn+an) (rn+an),.int .u64 ((cK f cX:Nat):Int),.int .u64 ((cK ce di:Nat):Int),.int .u64 ((cK at_ dB:Nat):Int),.int .u64 ((cK le dH:Nat):Int)],.bool true]) (by simp[results,results184,go_sem,t0,t1,t2,t3,t4,t5]) rfl ?_
       have hR:tB am l f ce at_ le ds add fm cX di dB dH=some (L,cur++add,cK f cX,cK ce di,cK at_ dB,cK le dH):=by
        unfold tB;rw[XK.out];simp only[];rw[MB.out,<- XN.out];rfl
       rw[hR];exact⟨bZ,rn+an,rfl,Rd.own XO,QJ,λa ha=>by have:=abE XO a ha;omega⟩
def rx(ds:List Int)(add:List dM)(am:Int)(f ce at_ le:Nat):Bool:=
 decide (ds.length<=40)&&(decide (add.length<=40)&&(decide (0<=am)&&(decide (am<=1073741824)&&([f,ce,at_,le].all nR&&(ds.all kh&&add.all nQ)))))
theorem abL(n:Int)(w:World):Calls prog 300 #[.int .i64 n] w λe w'=>e= .returned (.bool (!kh n))/\aoV w w':=by
 go_enter func300,ntmps300
 go_wp2_with fail;refine(QA n w).mono ?_;rintro e w2⟨rfl,hu⟩;go_wp2_with fail;go_ret;exact⟨rfl,hu⟩
theorem abM(x y:Int)(w:World):Calls prog 301 #[.agg #[.int .i64 x,.int .i64 y]] w λe w'=>e= .returned (.bool (!nQ (x,y)))/\aoV w w':=by
 have h0:aoV w (w.alloc (.cells #[.int .i64 x,.int .i64 y] 268)):=(aoV.refl w).alloc _;go_enter func301,ntmps301
 go_wp2_with fail;refine(Xr x y _).mono ?_;rintro e w2⟨rfl,hu⟩;go_wp2_with fail;go_ret;exact⟨rfl,h0.trans hu⟩
theorem abN(A:Option Addr)(n c:Nat)(l:List Int)(w:World)(hr:Rd w w.heap.size 1 A n (lJ l))(hn:n<=9223372036854775807):
 Calls prog 330 #[.slice A n c,.func (.func 300) #[] #[]] w λe w'=>e= .returned (.int .i64 (nP (λn=> !kh n) l))/\aoV w w':=by
 have bU:=aoU (show n=l.length by have:=hr.1;rw[Fa] at this;omega);go_enter func330,ntmps330
 go_wp2_with fail;go_loopw[8] (λi wr=>∃k:Nat,i= .int .i64 k/\k<=n/\Hid (∀j (hj:j<k) (hl:j<l.length),kh l[j]=true)/\aoV w wr) (λi _=>n-(intOf i).toNat)
 case atStart=>exact⟨0,rfl,by omega,λj hj=>absurd hj (Nat.not_lt_zero _),aoV.refl _⟩
 case round=>
  obtain⟨k,rfl,hk,hall,hu⟩:=hrel;by_cases hlt:k<n
  .have bS:k<l.length:=by have:=bU.out;omega
   obtain⟨b,o,rfl,hb,hc⟩:=hr.2 (by omega);have pO:wr.cell? ⟨b,o+k,none⟩=some (.int .i64 l[k]):=(hu.cell (p:=⟨b,o+k,none⟩) hb).trans (hc k _ (by simp[lJ,bS]));obtain⟨x,hx⟩:=bB (l[k])
   rw[<- hx] at pO;have ew:=aoU hx;clear hx hc;go_wp2_with fail;refine(abL x wr).mono ?_;rintro e w2⟨rfl,aq⟩;obtain⟨q,hq⟩:=bB (kh x)
   rw[<- hq];have ji:=aoU hq;clear pO hq;cases q
   .go_wp2_with fail;go_ret;refine⟨?_,hu.trans aq⟩;rw[apu (k:=k) bS (λj hj=>by rw[hall.out j hj (by omega)];rfl) (by rw[<- ew.out,<- ji.out];rfl)];rfl
   .go_wp2_with fail;go_roundw
    case rel=>
     refine⟨k+1,by go_num,by omega,?_,hu.trans aq⟩;intro j hj hl;by_cases hjk:j=k
     .subst hjk;rw[<- ew.out,<- ji.out]
     .exact hall.out j (by omega) hl
    case measure=>simp[intOf];omega
  .go_wp2_with fail;go_ret;refine⟨?_,hu⟩;rw[E9 (λj hj=>by rw[hall.out j (by have:=bU.out;omega) hj];rfl)];rfl
theorem abO(A:Option Addr)(n c:Nat)(l:List Int)(w:World)(hr:Rd w w.heap.size 1 A n (lJ l))(hn:n<=9223372036854775807):
 Calls prog 299 #[.slice A n c,.func (.func 300) #[] #[]] w λe w'=>e= .returned (.bool (!l.all kh))/\aoV w w':=by
 have qr:=Io (λn=> !kh n) l;have hall:(l.any λn=> !kh n)= !l.all kh:=by rw[List.not_all_eq_any_not]
 have iw:=aoU (qr.trans hall);clear qr hall;go_enter func299,ntmps299
 go_wp2_with fail;refine(abN A n c l w hr hn).mono ?_;rintro e w1⟨rfl,hu⟩;generalize nP (λn=> !kh n) l=z at *;go_wp2_with fail;go_ret;refine⟨aqg ?_,hu⟩;rw[<- iw.out]
theorem XP(D:Option Addr)(b9 bX:Nat)(ds:List Int)(A:Option Addr)(an ac:Nat)(add:List dM)(am:Int)(f ce at_ le:Nat)(w:World)(hd:Rd w w.heap.size 1 D b9 (lJ ds))(hdn:b9<=9223372036854775807)(ha:Rd w w.heap.size 2 A an (dR add))(kE:an<=9223372036854775807):
 Calls prog 250 #[.agg #[.slice D b9 bX,.slice A an ac,.int .i64 am,.int .u64 f,.int .u64 ce,.int .u64 at_,.int .u64 le]] w λe w'=>e= .returned (.bool (rx ds add am f ce at_ le))/\aoV w w':=by
 have hv:rx ds add am f ce at_ le=(decide (b9<=40)&&(decide (an<=40)&&(decide (0<=am)&&(decide (am<=1073741824)&&([f,ce,at_,le].all nR&&(ds.all kh&&add.all nQ)))))):=by
  have h1:b9=ds.length:=by have:=hd.1;rw[Fa] at this;omega
  have h2:=ha.ly;unfold rx;rw[h1,h2]
 have cd:=aoU hv;clear hv;obtain⟨w1,hw1⟩:=bB (w.alloc (.cells #[.slice D b9 bX,.slice A an ac,.int .i64 am,.int .u64 f,.int .u64 ce,.int .u64 at_,.int .u64 le] 174))
 have cj:aoV w w1:=by rw[hw1];exact(aoV.refl w).alloc _
 have hb:w1.heap[w.heap.size]?=some (.cells #[.slice D b9 bX,.slice A an ac,.int .i64 am,.int .u64 f,.int .u64 ce,.int .u64 at_,.int .u64 le] 174 (0,0)):=by rw[hw1];exact bp w _
 have jX:=hd.up cj;have AQ:=ha.up cj;clear hd ha;have fT:=aoU hw1;clear hw1;by_cases k1:b9<=40
 .by_cases k2:an<=40
  .by_cases aY:0<=am
   .by_cases cJ:am<=1073741824
    .have d1:(b9:Int)<=40:=by omega
     have d2:(an:Int)<=40:=by omega
     have hm:Rd (w1.alloc (.cells #[.int .u64 f,.int .u64 ce,.int .u64 at_,.int .u64 le] 26)) (w1.alloc (.cells #[.int .u64 f,.int .u64 ce,.int .u64 at_,.int .u64 le] 26)).heap.size 1 (some ⟨w1.heap.size,0,none⟩) 4 (zn [f,ce,at_,le]):=
      Rd.made w1 #[.int .u64 f,.int .u64 ce,.int .u64 at_,.int .u64 le] 26 rfl
     have bV:aoV w1 (w1.alloc (.cells #[.int .u64 f,.int .u64 ce,.int .u64 at_,.int .u64 le] 26)):=(aoV.refl w1).alloc _;go_enter func250,ntmps250
     go_wp2_with fail;have hsz:w1.heap.size=w.heap.size+1:=by rw[fT.out];simp
     rw[hsz] at hm;rw[<- fT.out];clear fT hsz;generalize w1.alloc (.cells #[.int .u64 f,.int .u64 ce,.int .u64 at_,.int .u64 le] 26)=w3 at *;generalize w.heap.size=yb at hb hm|-;refine(Xs _ 4 4 [f,ce,at_,le] w3 hm (by omega)).mono ?_;rintro e w4⟨rfl,eO⟩;have hb4:=((bV.trans eO).block _ (aB hb)).trans hb;have ur:=jX.up (bV.trans eO);have IA:=AQ.up (bV.trans eO);have zo:=cj.trans (bV.trans eO);generalize [f,ce,at_,le].all nR=bm at *;clear hb hm bV eO jX AQ cj;cases bm
     .clear hb4;go_wp2_with fail;go_ret;refine⟨aqg ?_,zo⟩;rw[cd.out];simp
     .have t0:=aoW hb4 0;go_wp2_with fail;clear t0;refine(abO D b9 bX ds w4 ur hdn).mono ?_;rintro e ai⟨rfl,cI⟩;have md:=(fP cI hb4);have abP:=IA.up cI;have nT:=zo.trans cI;generalize ds.all kh=wY at *;clear hb4 IA zo cI ur;cases wY
      .clear md;go_wp2_with fail;go_ret;refine⟨aqg ?_,nT⟩;rw[cd.out];simp
      .have t1:=aoW md 1;go_wp2_with fail;clear t1;refine(Xu 301 #[] (λx=> !nQ x) A an ac add ai abP kE (λ_ _=>rfl) (λW x _=>abM x.1 x.2 W)).mono ?_;rintro e cH⟨rfl,eZ⟩;have hal:(add.any λx=> !nQ x)= !add.all nQ:=by rw[List.not_all_eq_any_not]
       rw[hal];generalize add.all nQ=E4 at *;go_wp2_with fail;go_ret;refine⟨aqg ?_,nT.trans eZ⟩;rw[cd.out];cases E4 <;>(simp[k1,k2,aY,cJ] <;>omega)
    .have d1:(b9:Int)<=40:=by omega
     have d2:(an:Int)<=40:=by omega
     go_enter func250,ntmps250
     go_wp2_with fail;rw[<- fT.out];go_ret;refine⟨aqg ?_,cj⟩;rw[cd.out];first|(simp[*];done)|(simp[*];omega)
   .have d1:(b9:Int)<=40:=by omega
    have d2:(an:Int)<=40:=by omega
    go_enter func250,ntmps250
    go_wp2_with fail;rw[<- fT.out];go_ret;refine⟨aqg ?_,cj⟩;rw[cd.out];first|(simp[*];done)|(simp[*];omega)
  .have d1:(b9:Int)<=40:=by omega
   have d2:¬(an:Int)<=40:=by omega
   go_enter func250,ntmps250
   go_wp2_with fail;rw[<- fT.out];go_ret;refine⟨aqg ?_,cj⟩;rw[cd.out];first|(simp[*];done)|(simp[*];omega)
 .have d1:¬(b9:Int)<=40:=by omega
  go_enter func250,ntmps250
  go_wp2_with fail;rw[<- fT.out];go_ret;refine⟨aqg ?_,cj⟩;rw[cd.out];first|(simp[*];done)|(simp[*];omega)
def dq(ds:List Int):List UInt64:=ds.map λn=>UInt64.ofNat n.toNat
def kN(l:List dM):List UInt8:=l.flatMap λf=>cU f.1.toNat++cU f.2.toNat
def oY(l:List Nat):List UInt8:=l.flatMap cU
def qu(ds:List Int)(add:List dM)(am:Int)(f ce at_ le:Nat):List UInt8:=oO (dq ds)++cU add.length++kN add++oY [am.toNat,f,ce,at_,le]
theorem ME(ds:List Int):(dq ds).length=ds.length:=by simp[dq]
theorem XR:∀(l:List Nat),(∀x∈l,x<18446744073709551616)->(oY l).length<=10*l.length
 | [],_=>by simp[oY]
 |x::l,h=>by
  have h1:=pH (h x gN);have h2:=XR l λy hy=>h y (kS _ hy)
  simp only[oY,List.flatMap_cons,dG,iu] at *;omega
theorem abR(q:List UInt64)(h:q.length<18446744073709551616):(oO q).length<=10*q.length+10:=by
 have h1:(ri q).length<=10*q.length:=by
  clear h;induction q with
  |nil=>simp[ri]
  |cons x q ih=>have:=pH x.toNat_lt;simp only[ri,List.flatMap_cons,dG,iu] at *;omega
 unfold oO;rw[dG];have:=pH h;omega
theorem abS{x:Int}(h:kh x=true):IntKind.u64.wrap x=((x.toNat:Nat):Int)/\x.toNat<=1073741824:=by
 simp[kh] at h
 refine⟨?_,by omega⟩;simp[IntKind.wrap,IntKind.bits,IntKind.signed]
 omega
theorem QK{x:Int}(h:0<=x)(h2:x<=1073741824):IntKind.u64.wrap x=((x.toNat:Nat):Int):=by
 simp[IntKind.wrap,IntKind.bits,IntKind.signed]
 omega
theorem XS(
 B:Option Addr)(n c:Nat)(bs:List UInt8)(D:Option Addr)(b9 bX:Nat)(ds:List Int)(A:Option Addr)(an ac:Nat)(add:List dM)(am:Int)(f ce at_ le:Nat)(w:World)(hb:Rd w w.heap.size 1 B n (cu bs))(hn:n<=549755813888)(hd:Rd w w.heap.size 1 D b9 (lJ ds))(hdn:b9<=9223372036854775807)(ha:Rd w w.heap.size 2 A an (dR add))(kE:an<=9223372036854775807):
 Calls prog 183 #[.slice B n c,.agg #[.slice D b9 bX,.slice A an ac,.int .i64 am,.int .u64 f,.int .u64 ce,.int .u64 at_,.int .u64 le]] w
  λe w'=>(rx ds add am f ce at_ le=false/\e= .returned (.tuple #[.slice none 0 0,.int .i64 1])/\aoV w w')\/
   (rx ds add am f ce at_ le=true/\∃A' n' c',e= .returned (.tuple #[.slice A' n' c',.int .i64 0])/\fG w' w.heap.size A' n' c' (bs++lF 6 (qu ds add am f ce at_ le))/\aoV w w'):=by
 obtain⟨w1,hw1⟩:=bB (w.alloc (.cells #[.slice D b9 bX,.slice A an ac,.int .i64 am,.int .u64 f,.int .u64 ce,.int .u64 at_,.int .u64 le] 174))
 have jH:aoV w w1:=by rw[hw1];exact(aoV.refl w).alloc _
 have fe:w1.heap[w.heap.size]?=some (.cells #[.slice D b9 bX,.slice A an ac,.int .i64 am,.int .u64 f,.int .u64 ce,.int .u64 at_,.int .u64 le] 174 (0,0)):=by rw[hw1];exact bp w _
 have fT:=aoU hw1;clear hw1;go_enter func183,ntmps183
 go_wp2_with fail;rw[<- fT.out];clear fT;have hge:w.heap.size<=w.heap.size:=aZ _;generalize amH:w.heap.size=ge at fe|-;refine(XP D b9 bX ds A an ac add am f ce at_ le w1 (hd.up jH) hdn (ha.up jH) kE).mono ?_;rintro e w2⟨rfl,aq⟩;have ao0:=(fP aq fe);have jI:=jH.trans aq;clear fe jH aq;cases hm:rx ds add am f ce at_ le
 .go_wp2_with fail;go_ret2
  exact .inl ⟨hm,rfl,jI⟩
 .have hm2:=hm;simp only[rx,ij,decide_eq_true_eq] at hm2;obtain⟨m1,m2,m3,m4,m5,m6,m7⟩:=hm2;have XT:∀x∈ds,kh x=true:=List.all_eq_true.1 m6;have XU:∀x∈add,nQ x=true:=List.all_eq_true.1 m7;simp only[List.all_cons,List.all_nil,Bool.and_true,ij,nR,decide_eq_true_eq] at m5;have hdl:b9=ds.length:=by have:=hd.1;rw[Fa] at this;omega
  have hal:an=add.length:=ha.ly;have zt:=aoU hdl;have C':=aoU hal;have eT:=aoU hm;have abT:=aoU XT;have abU:=aoU XU;rw[<- hdl] at m1;rw[<- hal] at m2;clear hm hdl hal m6 m7 XT XU;have t0:=aoW ao0 0;go_wp2_with fail;clear t0;go_loopw[6,20] (λq i wr=>∃(k:Nat)(Q:Option Addr)(ip:Nat),i= .int .i64 k/\q= .slice Q k ip/\k<=b9/\aoV w2 wr/\sb wr w2.heap.size Q k ip (dq (ds.take k))) (λ_ i _=>b9-(intOf i).toNat)
  case atStart=>exact⟨0,none,0,rfl,rfl,by omega,aoV.refl _,fC _ _ _ _⟩
  case round=>
   obtain⟨k,Q,ip,rfl,rfl,hk,hu,hq⟩:=hrel;by_cases hlt:k<b9
   .have bS:k<ds.length:=by have:=zt.out;omega
    obtain⟨b,o,rfl,iW,hc⟩:=hd.2 (by omega);have pO:wr.cell? ⟨b,o+k,none⟩=some (.int .i64 ds[k]):=((jI.trans hu).cell (p:=⟨b,o+k,none⟩) iW).trans (hc k _ (by simp[lJ,bS]));obtain⟨x,hx⟩:=bB (ds[k])
    have sR:kh x=true:=by rw[hx];exact abT.out _ (List.getElem_mem bS)
    rw[<- hx] at pO;obtain⟨iS,z2⟩:=abS sR;have htk:dq (ds.take (k+1))=dq (ds.take k)++[UInt64.ofNat x.toNat]:=by
     rw[lU bS,<- hx];simp[dq]
    generalize x.toNat=xn at *;have XV:Value.int .u64 xn=Cf (UInt64.ofNat xn):=by
     rw[Vn,Nat.mod_eq_of_lt (by omega)]
    have fk:=aoU htk;have abV:=aoU XV;have fL:=jI.trans hu;clear hc hx sR htk XV;go_wp2_with (at_builtin;refine iF _ XQ (news:=p6 [UInt64.ofNat xn]) (lu hq _) (Rd.Vp _ _ abV.out) (Vm _) (by omega) (by omega) (by simp;have:=hu.size;omega) rfl rfl rfl rfl ?_;intro v3 w3 rk kM EM;obtain⟨Q3,qc3,rfl⟩:=eL rk)
    have bV:aoV w2 w3:=(hu.alloc _).grown kM (λg hg=>(hq.lt g hg).1);clear pO EM kM;go_roundw
    case rel=>
     refine⟨k+1,Q3,qc3,by go_num,rfl,by omega,bV,?_⟩;show World.ownsRow _ _ _ _ _ _ _;rw[fk.out,Vl];exact rk
    case measure=>simp[intOf];omega
   .have wz:k=b9:=by omega
    subst wz;have XW:sb wr w2.heap.size Q k ip (dq ds):=by
     have h:=hq;rw[zt.out,List.take_length] at h;rw[zt.out];exact h
    clear hq;have XY:=XW.rd;have hS:∀W,aoV wr W->aoV wr W/\W.cell? ⟨ge,1,none⟩=some (.slice A an ac):=λW h=>
     ⟨h,aoW (((hu.trans h).block _ (aB ao0)).trans ao0) 1⟩
    have amI:IntKind.u64.wrap (an:Int)=(an:Int):=by simp[IntKind.wrap,IntKind.bits,IntKind.signed];omega
    have hlb:=abR (dq ds) (by rw[ME,<- zt.out];omega);rw[ME,<- zt.out] at hlb;have Fe:=(fP hu ao0);have jb:=jI.trans hu;clear XW hd ao0 jI hu;go_wp2_with fail;apply V.fQ _ (by kernel_rfl) (by kernel_rfl) hS
    .intro aF aoX
     (apply V.aj.ok;intros;go_simp;rfl;rfl;go_frame)
     apply V.aj.cG (p8 1 (cu (oO (dq ds)))) V.ob [] []
     .exact λv W1 W2 h hs=>h.tW hs
     .rfl
     .intro vs w1 hK hS hf K ah;go_simp;have gQ:=abQ none 0 0 [] Q k ip (dq ds) w1 Rd.empty (XY.up hS.1) (by omega);refine gQ.mono ?_;rintro e w2⟨fX,n1,c1,rfl,gu,aq⟩
      (try rw[gY] at gu)
      exact ah.out _ _ (p8.own gu) (V.af.co aq) (Eu gu)
     simp only[au,Nat.reduceAdd];iterate 4 (apply V.aj.ok;intros;go_simp;rfl;rfl;go_frame)
     apply V.aj.cG (p8 1 (cu (oO (dq ds)++cU an))) V.ob [1] []
     .exact λv W1 W2 h hs=>h.tW hs
     .rfl
     .intro vs w1 hK hS hf K ah;obtain⟨AG,-⟩:=hf;obtain⟨fX,n1,c1,hv,hnc,hrd⟩:=AG;have QL:=aoU hrd.gO
      (try dsimp only at ah|-)
      rw[hv] at ah|-;go_simp;have gQ:=za fX n1 c1 (oO (dq ds)) an w1 hrd (by have:=QL.out;omega) (by omega);refine gQ.mono ?_;rintro e w2⟨iA,n2,c2,rfl,gu,aq⟩;exact ah.out _ _ (p8.own gu) (V.af.co aq) (Eu gu)
     simp only[au,Nat.reduceAdd];apply V.aj.wo (λvs W=>vs 7=vs 6) (λ_ _=>False) [] [] [6] (λvs vs' h=>by rw[h 7 (by simp),h 6 (by simp)];exact⟨rfl,rfl⟩)
     .exact λ_ _ _ h _=>h
     .rfl
     .intro vs w1 hK hS _ K ah;go_simp;refine ah.out _ _ ?_ (V.af.refl _ _) (λg hg=>hg.elim);rw[V.eV,V.jQ _ _ (by decide)]
     simp only[au,Nat.reduceAdd];apply V.aj.fin [6,7];intro vs dY hK hS hf;obtain⟨h6,h7,-⟩:=hf;obtain⟨XZ,wY,bc,iq,hbc,IB⟩:=h6;have hv7:vs 7= .slice XZ wY bc:=Eq.trans h7 iq;refine aoX.out _ _ ?_;clear aoX
     (try dsimp only)
     rw[iq,hv7];generalize vs 1=v1;have ao':=jR hK;have IC:=(fP ao' Fe);have nU:=jb.trans ao';have mC:wY<=10*k+20:=by
      have h1:=IB.gO;have h2:=pH (n:=an) (by omega);rw[dG] at h1;omega
     clear hS hK h7 iq hv7 XY Fe jb ao' hlb vs;have hb0:oO (dq ds)++cU an=oO (dq ds)++cU add.length:=by rw[C'.out]
     rw[hb0] at IB;have Ya:=aoU (Eq.refl (oO (dq ds)++cU add.length));generalize Yb:oO (dq ds)++cU add.length=b0 at IB Ya;have abW:=aoU Yb;clear hb0 Yb Ya;have t1:=aoW IC 1;go_wp2_with fail;clear t1;go_loopw[9,40] (λq i wr=>∃(j:Nat)(Q:Option Addr)(cf ip:Nat),i= .int .i64 j/\q= .slice Q cf ip/\j<=an/\cf<=10*k+20+20*j/\aoV dY wr/\Rd wr wr.heap.size 1 Q cf (cu (b0++kN (add.take j)))) (λ_ i _=>an-(intOf i).toNat)
     case atStart=>exact⟨0,XZ,wY,bc,rfl,rfl,by omega,by omega,aoV.refl _,by simpa[kN] using IB⟩
     case round=>
      obtain⟨j,Q,cf,ip,rfl,rfl,hj,ID,hu,hq⟩:=hrel;by_cases iy:j<an
      .have hjl:j<add.length:=by have:=C'.out;omega
       obtain⟨b,o,x,rfl,iW,hx,c0,c1⟩:=((ha.up nU).up hu).Qz iy;rw[dh hjl] at hx;injection hx with hx;have sR:nQ x=true:=by rw[<- hx];exact abU.out _ (List.getElem_mem hjl)
       have htk:kN (add.take (j+1))=kN (add.take j)++(cU x.1.toNat++cU x.2.toNat):=by
        rw[lU hjl,hx];simp[kN]
       obtain⟨x1,x2⟩:=x
       (try dsimp only at c0 c1 htk)
       simp[nQ,kh] at sR
       have iS:=QK (x:=x1) (by omega) (by omega);have z2:=QK (x:=x2) (by omega) (by omega);have z3:x1.toNat<=3:=by omega
       have z4:x2.toNat<=1073741824:=by omega
       have fk:=aoU htk;clear hx sR htk;generalize x1.toNat=y1 at *;generalize x2.toNat=lZ at *;have aX:aoV wr (wr.alloc (.cells #[.int .i64 x1,.int .i64 x2] 268)):=(aoV.refl wr).alloc _;have uW:(wr.alloc (.cells #[.int .i64 x1,.int .i64 x2] 268)).heap[wr.heap.size]?=some (.cells #[.int .i64 x1,.int .i64 x2] 268 (0,0)):=bp _ _;go_wp2_with fail;clear c0 c1;have eM:=hq.up aX;have aq:=hu.trans aX;generalize wr.alloc (.cells #[.int .i64 x1,.int .i64 x2] 268)=ag at *;generalize wr.heap.size=gf at uW|-
       have hS:∀W,aoV ag W->aoV ag W/\W.cell? ⟨gf,0,none⟩=some (.int .i64 x1)/\W.cell? ⟨gf,1,none⟩=some (.int .i64 x2):=λW h=>by
        have hf:=(fP h uW);exact⟨h,aoW hf 0,aoW hf 1⟩
       clear aX hq hu uW;apply V.fQ _ (by kernel_rfl) (by kernel_rfl) hS
       .intro aF aoX;iterate 4 (apply V.aj.ok;intros;go_simp;rfl;rfl;go_frame)
        apply V.aj.cG (p8 1 (cu (b0++kN (add.take j)++cU y1))) V.ob [] []
        .exact λv W1 W2 h hs=>h.tW hs
        .rfl
        .intro vs w1 hK hS hf K ah;go_simp;have gQ:=za Q cf ip (b0++kN (add.take j)) y1 w1 (eM.up hS.1) (by omega) (by omega);refine gQ.mono ?_;rintro e w2⟨fX,n1,c1,rfl,gu,aq⟩
         (try rw[gY] at gu)
         exact ah.out _ _ (p8.own gu) (V.af.co aq) (Eu gu)
        simp only[au,Nat.reduceAdd];iterate 3 (apply V.aj.ok;intros;go_simp;rfl;rfl;go_frame)
        apply V.aj.cG (p8 1 (cu (b0++kN (add.take j)++cU y1++cU lZ))) V.ob [4] []
        .exact λv W1 W2 h hs=>h.tW hs
        .rfl
        .intro vs w1 hK hS hf K ah;obtain⟨AG,-⟩:=hf;obtain⟨fX,n1,c1,hv,hnc,hrd⟩:=AG;have QL:=aoU hrd.gO
         (try dsimp only at ah|-)
         rw[hv] at ah|-;go_simp;have gQ:=za fX n1 c1 (b0++kN (add.take j)++cU y1) lZ w1 hrd (by have h1:=QL.out;have h2:=eM.gO;have h3:=pH (n:=y1) (by omega);rw[dG] at h1;omega) (by omega);refine gQ.mono ?_;rintro e w2⟨iA,n2,c2,rfl,gu,aq⟩;exact ah.out _ _ (p8.own gu) (V.af.co aq) (Eu gu)
        simp only[au,Nat.reduceAdd];apply V.aj.wo (λvs W=>vs 9=vs 8) (λ_ _=>False) [] [] [8] (λvs vs' h=>by rw[h 9 (by simp),h 8 (by simp)];exact⟨rfl,rfl⟩)
        .exact λ_ _ _ h _=>h
        .rfl
        .intro vs w1 hK hS _ K ah;go_simp;refine ah.out _ _ ?_ (V.af.refl _ _) (λg hg=>hg.elim);rw[V.eV,V.jQ _ _ (by decide)]
        simp only[au,Nat.reduceAdd];apply V.aj.fin [8,9];intro vs je hK hS hf;obtain⟨h8,h9,-⟩:=hf;obtain⟨Q3,AY,qc3,nV,amJ,IE⟩:=h8;have qw:vs 9= .slice Q3 AY qc3:=Eq.trans h9 nV;refine aoX.out _ _ ?_;clear aoX
        (try dsimp only)
        rw[nV,qw];generalize vs 4=v4;have bV:=jR hK;have QM:AY<=10*k+20+20*(j+1):=by
         have h1:=IE.gO;have h2:=eM.gO;have h3:=pH (n:=y1) (by omega);have h4:=pH (n:=lZ) (by omega);rw[dG,dG] at h1;omega
        clear hS hK h9 nV qw;go_wp2_with fail;go_roundw
        case rel=>
         refine⟨j+1,Q3,AY,qc3,by go_num,rfl,by omega,QM,aq.trans bV,?_⟩;rw[fk.out,<- jg,<- jg];exact IE
        case measure=>simp[intOf];omega
       .kernel_rfl
      .have hjn:j=an:=by omega
       subst hjn;have Ci:Rd wr wr.heap.size 1 Q cf (cu (b0++kN add)):=by
        have h:=hq;rw[C'.out,List.take_length] at h;exact h
       have gM:=QK m3 m4;have abX:am.toNat<=1073741824:=by omega
       obtain⟨AZ,QO⟩:=bB am.toNat
       rw[<- QO] at gM abX;have MB:=aoU QO;have Yc:=(fP hu IC);obtain⟨-,-,t2,t3,t4,t5,t6⟩:=pw Yc
       have CK:Rd (wr.alloc (.cells #[.int .u64 AZ,.int .u64 f,.int .u64 ce,.int .u64 at_,.int .u64 le] 26)) (wr.alloc (.cells #[.int .u64 AZ,.int .u64 f,.int .u64 ce,.int .u64 at_,.int .u64 le] 26)).heap.size 1 (some ⟨wr.heap.size,0,none⟩) 5 (zn [AZ,f,ce,at_,le]):=Rd.made wr #[.int .u64 AZ,.int .u64 f,.int .u64 ce,.int .u64 at_,.int .u64 le] 26 rfl;have aX:aoV wr (wr.alloc (.cells #[.int .u64 AZ,.int .u64 f,.int .u64 ce,.int .u64 at_,.int .u64 le] 26)):=(aoV.refl wr).alloc _;have QP:=Ci.up aX;have abY:=(nU.trans hu).trans aX;clear hq Ci IC QO hS nU hu IB
       go_wp2_with fail;clear t2 t3 t4 t5 t6 Yc aX;generalize wr.alloc (.cells #[.int .u64 AZ,.int .u64 f,.int .u64 ce,.int .u64 at_,.int .u64 le] 26)=ag at *;generalize wr.heap.size=gl at CK|-;have hnb:∀x∈ [AZ,f,ce,at_,le],x<=281474976710656:=by
        intro x hx;simp only[List.mem_cons,List.not_mem_nil,or_false] at hx;obtain⟨a1,a2,a3,a4⟩:=m5;rcases hx with rfl|rfl|rfl|rfl|rfl <;>omega
       have Ff:=aoU hnb;obtain⟨vq,MF⟩:=bB ( [AZ,f,ce,at_,le])
       have hnl:vq.length=5:=by rw[MF];rfl
       rw[<- MF] at CK Ff;have mY:=aoU MF;have lz:=aoU hnl;clear hnb MF hnl m5;go_loopw[9,67] (λq i wr=>∃(t:Nat)(Q:Option Addr)(cf ip:Nat),i= .int .i64 t/\q= .slice Q cf ip/\t<=5/\cf<=10*k+20+20*j+10*t/\aoV ag wr/\Rd wr wr.heap.size 1 Q cf (cu (b0++kN add++oY (vq.take t)))) (λ_ i _=>5-(intOf i).toNat)
       case atStart=>exact⟨0,Q,cf,ip,rfl,rfl,by omega,by omega,aoV.refl _,by simpa[oY] using QP⟩
       case round=>
        clear QP ID;obtain⟨t,Q,cf,ip,rfl,rfl,ht,ID,hu,hq⟩:=hrel;by_cases hlt3:t<5
        .have htl:t<vq.length:=by have:=lz.out;omega
         obtain⟨b,o,e,iW,hc⟩:=(CK.up hu).2 (by omega);injection e with e;injection e with e1 e2;subst e1;subst e2;have pO:=hc t (.int .u64 (vq[t]:Int)) (by simp[zn,htl]);rw[dV] at pO;have WJ:vq[t]<=281474976710656:=Ff.out _ (List.getElem_mem htl);have htk:oY (vq.take (t+1))=oY (vq.take t)++cU vq[t]:=by
          rw[lU htl];unfold oY;rw[List.flatMap_append,List.flatMap_singleton]
         generalize vq[t]=x at *;have fk:=aoU htk;clear hc htk;go_wp2_with fail;clear pO;have gQ:=za Q cf ip (b0++kN add++oY (vq.take t)) x wr hq (by omega) (by omega);refine gQ.mono ?_;rintro e je⟨Q3,AY,qc3,rfl,ho,bV⟩;have IE:=ho.rd;have QM:AY<=10*k+20+20*j+10*(t+1):=by
          have h1:=IE.gO;have h2:=hq.gO;have h3:=pH (n:=x) (by omega);rw[dG] at h1;omega
         clear ho gQ;go_wp2_with fail;go_roundw
         case rel=>
          refine⟨t+1,Q3,AY,qc3,by go_num,rfl,by omega,QM,hu.trans bV,?_⟩;rw[fk.out,<- jg];exact IE
         case measure=>simp[intOf];omega
        .have Da:t=5:=by omega
         subst Da;have Cj:Rd wr wr.heap.size 1 Q cf (cu (qu ds add am f ce at_ le)):=by
          have h:=hq;have e:vq.take 5=vq:=lV (by have:=lz.out;omega);rw[e,mY.out,MB.out,<- abW.out] at h;exact h
         clear hq;have QQ:qo 6 (qu ds add am f ce at_ le).length=0:=by
          have h1:=Cj.gO;unfold qo;rw[if_neg (by omega),if_neg (by omega)]
         have Yd:wL bs 6 (qu ds add am f ce at_ le)=bs++lF 6 (qu ds add am f ce at_ le):=by unfold wL;rw[if_pos QQ]
         have QR:=aoU QQ;have oh:=aoU Yd;have QS:=abY.trans hu;clear QQ Yd;go_wp2_with fail;have gQ:=Qi B n c bs 6 Q cf ip (qu ds add am f ce at_ le) wr (hb.up QS) Cj hn (by omega);refine gQ.mono ?_;rintro e je⟨Q3,AY,qc3,rfl,ho,bV⟩;rw[QR.out];rw[oh.out] at ho;go_wp2_with fail;go_ret2
         exact .inr ⟨eT.out,Q3,AY,qc3,rfl,jP ho (by have:=QS.size;omega),QS.trans bV⟩
    .kernel_rfl
end
section
structure oZ where
 aM:Nat
 ce:Nat
 a:Nat
 le:Nat
structure bA where
 bI:List aC
 ao:oZ
 am:List UInt8
 mn:List UInt8
 nb:Nat
 ne:Nat
 cs:Nat
 up:Bool
 now:Nat
 bE:zm
 jobs:List dT
structure cr where
 aG:Nat
 aw:List bA
 net:List eU
 ids:Nat
 cZ:List rV
 jf:List rV
def kF(m:oZ):List UInt8:=lF 6 (qu [] [] 0 m.aM m.ce m.a m.le)
def fY:List UInt8:=lF 6 (qu [] [] 1 0 0 0 0)
def nd0:bA:=⟨[],⟨0,0,0,0⟩,[],fY,0,1,11,true,0,⟨0,0⟩,[]⟩
def QT(k:zm)(v:Nat):zm:= { k with aR:=max k.aR (min (v / 8) 1099511627776) }
def sd(k:zm)(m:eU):zm:=m.l.foldl (λk x=>QT k x.v.toNat) (if m.k=4\/m.k=5 then k else QT k m.n)
def A8(net:List eU)(m:eU):List eU:=if gT m=true then(if 300<net.length+1 then(net++[m]).drop 1 else net++[m]) else net
def kO(net:List eU)(l:List eU):List eU:=l.foldl A8 net
def Fg(d:bA)(l:List aC):bA:=if jk d.bI l=d.bI then { d with cs:=d.cs+1 } else { d with bI:=jk d.bI l,am:=d.am++fh l,nb:=d.nb+1,cs:=d.cs+2 }
def jl(at_:Nat)(d:bA)(m:eU):bA×List eU:=
 if gT m=false\/m.t≠at_ then(d,[])
 else if m.k=1 then
  (if m.l.any (λx=>decide (x.v.toNat<=d.ao.aM))=true then(d,[⟨3,at_,m.f,m.id,d.ao.aM,[]⟩]) else(Fg d m.l,[⟨2,at_,m.f,m.id,0,[]⟩]))
 else if m.k=4 then(if m.n<=255 then(d,[⟨5,at_,m.f,m.id,d.ao.ce,rq d.bI (Int64.ofInt m.n)⟩]) else(d,[]))
 else(d,[])
def mj(du:List dT)(m:eU):List dT×List rV:=((du.map λj=>gG j m).filter (λj=>j.fin.isNone),(du.map λj=>gG j m).filterMap (·.fin))
def qx(c:cr):cr:=
 match c.net with
 | []=>c
 |m::r=>
  match c.aw[m.t]? with
  |none=> { c with net:=r }
  |some d=>
   if d.up=false then { c with net:=r }
   else
    let d1:= { d with bE:=sd d.bE m }
    let h:=jl m.t d1 m
    let j:=mj h.1.jobs m
    { c with aw:=c.aw.set m.t { h.1 with jobs:=j.1 },net:=kO r h.2,cZ:=c.cZ++j.2 }
def IF(c:cr):Bool:=c.aw.any λd=>d.up && !d.jobs.isEmpty
def qy(d:bA)(m:oZ):bA:= { d with ao:=m,mn:=d.mn++kF m,ne:=d.ne+1,cs:=d.cs+2 }
def lL(at_:Nat)(d:bA):bA×Nat:=
 if d.bE.aR<d.bE.ls then({ d with bE:= { d.bE with aR:=d.bE.aR+1 } },(d.bE.aR+1)*8+at_)
 else
  let le:=max d.bE.aR d.bE.ls+16
  ({ qy d { d.ao with le:=le } with bE:=⟨d.bE.aR+1,le⟩ },(d.bE.aR+1)*8+at_)
def lM(n at_ id:Nat)(q:ol)(v:Nat):dT:=⟨n,at_,id,q,v,List.replicate 7 false,0,[],0,none⟩
def gH(c:cr)(at_:Nat)(q:ol):cr×Nat:=
 match c.aw[at_]? with
 |none=>(c,0)
 |some d=>
  let r:=if q.kind=3 then(d,0) else lL at_ d
  let x:=lM c.aw.length at_ (c.ids+1) q r.2
  ({ c with aw:=c.aw.set at_ { r.1 with jobs:=r.1.jobs++[x] },net:=kO c.net (rW x),ids:=c.ids+1,jf:=if r.2=0 then c.jf else c.jf++[⟨c.ids+1,q,0,r.2,[]⟩] },c.ids+1)
def fx(c:cr)(at_:Nat):cr:=
 match c.aw[at_]? with
 |none=>c
 |some d=>if d.up=true then { c with aw:=c.aw.set at_ { d with up:=false,jobs:= [] } } else c
def fZ(c:cr)(at_:Nat):cr:=
 match c.aw[at_]? with
 |none=>c
 |some d=>if d.up=true then c else { c with aw:=c.aw.set at_ { d with up:=true,now:=min d.ao.a 1099511627776,bE:=⟨d.ao.le,d.ao.le⟩,jobs:= [] } }
def fu(n aG:Nat):cr:=⟨aG,List.replicate n nd0,[],0,[],[]⟩
end
section
open Go.RowKit
theorem ab2(g o:Nat)(x y:Int)(w:World)(hc:w.cell? ⟨g,o,none⟩=some (.int .i64 x))(hz:w.frozen? ⟨g,o,none⟩=false):
 Calls prog 119 #[.pointer (some ⟨g,o,none⟩),.int .i64 y] w λe w'=>e= .returned (.int .i64 (IntKind.i64.wrap (x+y)))/\w'=w.setCell ⟨g,o,none⟩ (.int .i64 (IntKind.i64.wrap (x+y))):=by
 have wu:=run_call_add (P:=prog) func190 (by kernel_rfl) (by kernel_rfl) (by kernel_rfl) .i64 (by kernel_rfl) (y:=y) (s:=IntKind.i64.wrap (x+y)) hc hz (by simp[go_sem]);generalize IntKind.i64.wrap (x+y)=z at *;go_enter func119,ntmps119
 go_wp2_with fail;go_ret;exact⟨rfl,rfl⟩
theorem Yh:(prog.info? 135).map (·.size)=some 6:=by kernel_rfl
theorem Yi(k f t:Int)(id n:Nat)(A:Option Addr)(an ac:Nat)(l:List aC)(w:World)(ha:Rd w w.heap.size 5 A an (bl l))(kE:an<=1000000):
 Calls prog 120 #[.agg #[.int .i64 k,.int .i64 f,.int .i64 t,.int .u64 id,.int .u64 n,.slice A an ac]] w λe w'=>∃R rc,e= .returned (.agg #[.int .i64 k,.int .i64 f,.int .i64 t,.int .u64 id,.int .u64 n,.slice R an rc])/\ej w' w.heap.size R an rc l/\aoV w w':=by
 obtain⟨wa,cM⟩:=bB (w.alloc (.cells #[.int .i64 k,.int .i64 f,.int .i64 t,.int .u64 id,.int .u64 n,.slice A an ac] 135))
 obtain⟨wb,cN⟩:=bB (wa.alloc (.cells #[.int .i64 0,.int .i64 0,.int .i64 0,.int .u64 0,.int .u64 0,.slice none 0 0] 135))
 have aQ:aoV w wa:=by rw[cM];exact(aoV.refl w).alloc _
 have aX:aoV wa wb:=by rw[cN];exact(aoV.refl wa).alloc _
 have h1:wb.heap[w.heap.size]?=some (.cells #[.int .i64 k,.int .i64 f,.int .i64 t,.int .u64 id,.int .u64 n,.slice A an ac] 135 (0,0)):=aH aX (by rw[cM];exact bp w _);have h2:wb.heap[wa.heap.size]?=some (.cells #[.int .i64 0,.int .i64 0,.int .i64 0,.int .u64 0,.int .u64 0,.slice none 0 0] 135 (0,0)):=by rw[cN];exact bp wa _
 have vr:wa.heap.size=w.heap.size+1:=by rw[cM];simp
 have wx:wb.heap.size=wa.heap.size+1:=by rw[cN];simp
 have hrb:=ha.up (aQ.trans aX);have jK:=aoU cM;have iD:=aoU cN;have ye:=aoU vr;have IH:=aoU wx;have kB:=aoW h1 5;have II:=aoU (aQ.trans aX);clear cM cN vr wx ha aQ aX;go_enter func120,ntmps120
 go_upto_region 1 with fail
 rw[<- jK.out,<- iD.out,<- ye.out];have hg1:w.heap.size<wa.heap.size:=by have:=ye.out;omega
 have nE:w.heap.size≠wa.heap.size:=by omega
 have Dc:w.heap.size<=w.heap.size:=aZ _;clear jK iD ye;generalize eH:w.heap.size=g1 at *;generalize wa.heap.size=g2 at *;have IJ:g1<wb.heap.size:=by have:=IH.out;omega
 have QU:g2<wb.heap.size:=by have:=IH.out;omega
 go_upto_region 2 with (
  at_builtin;refine iF _ AO (fC _ wb.heap.size _ _) hrb (CI _) (by omega) (by omega) (aZ _) rfl rfl rfl rfl ?_;intro v5 ai dN eh om;obtain⟨bZ,dC,rfl⟩:=eL dN
  have lN:ai.heap[g1]?=some (.cells #[.int .i64 k,.int .i64 f,.int .i64 t,.int .u64 id,.int .u64 n,.slice A an ac] 135 (0,0)):=(eh.block g1 IJ (λe=>by cases e)).trans h1;have tz:ai.heap[g2]?=some (.cells #[.int .i64 0,.int .i64 0,.int .i64 0,.int .u64 0,.int .u64 0,.slice none 0 0] 135 (0,0)):=(eh.block g2 QU (λe=>by cases e)).trans h2;have cI:aoV w ai:=II.out.grown eh (λg hg=>by cases hg);rw[dV,gY] at dN;have dt:=aoW lN 5;have f5:=ay lN 5;have wZ:=bM ai g1 5 (.slice bZ an dC) _ _ lN
  have gU:V.af (λx=>x=g1) ai (ai.setCell ⟨g1,5,none⟩ (.slice bZ an dC)):=aoZ _ _ g1 5 _ (V.af.refl _ _);clear eh om)
 (try rw[dV])
 generalize ai.setCell ⟨g1,5,none⟩ (.slice bZ an dC)=cH at *;have Bb:cH.heap[g1]?=some (.cells #[.int .i64 k,.int .i64 f,.int .i64 t,.int .u64 id,.int .u64 n,.slice bZ an dC] 135 (0,0)):=wZ;have IK:=(gU.block g2 (aB tz) (λe=>nE e.symm)).trans tz;have eZ:aoV w cH:=gy.up cI gU (Nat.le_of_eq eH);have jw:=iC dN gU (λkk hk e=>by
  have e:kk=g1:=e;obtain⟨a,rfl,rfl⟩:=hk;have:=(jO dN a.block rfl).1;omega)
 clear wZ tz lN dN cI gU dt f5 kB h1 h2 hrb II;obtain⟨d0,d1,d2,d3,d4,d5⟩:=iQ Bb;go_wp2_with (first
  |(
   with_reducible show wpList _ _ _ (⟨none,.store 135 _ _,_,_,_,none⟩::_) _ _
   go_loud (refine nW rfl 135 _ _ rfl (g:=g2) (cells:= #[.int .i64 k,.int .i64 f,.int .i64 t,.int .u64 id,.int .u64 n,.slice bZ an dC]) (by kernel_rfl) (by kernel_rfl) IK Yh rfl (by simp[Value.oneCell']) ?_)
   intro dY hgd dF))
 have ao':=gy.up eZ dF (by omega);have Ix:=iC jw dF (λkk hk e=>by
  have e:kk=g2:=e;obtain⟨a,rfl,rfl⟩:=hk;have:=(jO jw a.block rfl).1;omega)
 obtain⟨e0,e1,e2,bG,bT,dt⟩:=iQ hgd;refine dm (v:= .agg #[.int .i64 k,.int .i64 f,.int .i64 t,.int .u64 id,.int .u64 n,.slice bZ an dC]) (by simp[results,results120,go_sem,e0,e1,e2,bG,bT,dt]) rfl ?_;exact⟨bZ,dC,rfl,jP Ix (by omega),ao'⟩
end
end Go.Proofs.YtfghplfgndppfaaGreatDoor
