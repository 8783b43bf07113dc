/- Texts of this claim, joined: FrameW6, FrameW8, FrameW7, Fold, FrameLaw, FrameW9, FrameLaw2, Crc, FrameLaw3, ItemW7, ItemW8, ItemLaw, LogA, FrameW10, StP, File, EditW1, EditW2, Lay, Store, StoreI, TsW1, StW1, StW2, Conv. -/
import Derived.IntWalk
import Derived.Deep.RegionWith
import Derived.Deep.DrawnRows
import Derived.Laws.Tables
import Derived.Lib.ConvBytes
import Derived.Test.YtfghplfgndppfaaGreatDoorZ4
import Derived.Test.YtfghplfgndppfaaGreatDoorZ7
set_option linter.unusedVariables false
set_option linter.unusedSimpArgs false
set_option maxRecDepth 100000
set_option maxHeartbeats 8000000
namespace Go.Proofs.YtfghplfgndppfaaGreatDoor
open Go.Proofs.Tryz
section
open Go.RowKit
def rU(h:List UInt8):Nat:=(h.getD 1 0).toNat*65536+(h.getD 2 0).toNat*256+(h.getD 3 0).toNat
def ey(r:List UInt8):Nat×Nat×List UInt8×Nat:=
 if r.length<8 then(4,0,[],0)
 else if m' (r.take 8)≠0 then(m' (r.take 8),0,[],0)
 else if (r.getD 0 0).toNat<1\/100<(r.getD 0 0).toNat\/60000<rU r then(3,0,[],0)
 else if r.length-8<rU r+4 then(4,0,[],0)
 else if m' ((r.drop 8).take (rU r+4))≠0 then(m' ((r.drop 8).take (rU r+4)),0,[],0)
 else(0,(r.getD 0 0).toNat,(r.drop 8).take (rU r),rU r+12)
def wN(l:List UInt8)(at_:Int):Nat×Nat×List UInt8×Int:=
 if at_<0\/(l.length:Int)<at_ then(1,0,[],0)
 else((ey (l.drop at_.toNat)).1,(ey (l.drop at_.toNat)).2.1,(ey (l.drop at_.toNat)).2.2.1,if (ey (l.drop at_.toNat)).1=0 then at_+(ey (l.drop at_.toNat)).2.2.2 else 0)
theorem WQ(a b:Nat)(ha:a<4611686018427387904)(hb:b<4611686018427387904):bits .or .i64 (a:Int) (b:Int)=((a|||b:Nat):Int):=by
 have hlt:a|||b<2^62:=Nat.or_lt_two_pow ha hb
 show IntKind.i64.wrap ((BitVec.ofInt 64 (a:Int)|||BitVec.ofInt 64 (b:Int)).toNat:Int)=_;rw[BitVec.toNat_or,BitVec.ofInt_natCast,BitVec.ofInt_natCast,BitVec.toNat_ofNat,BitVec.toNat_ofNat,Nat.mod_eq_of_lt (by omega),Nat.mod_eq_of_lt (by omega),IntKind.wrap_i64];omega
theorem aaH(x1 x2 x3:Nat)(h1:x1<256)(h2:x2<256)(h3:x3<256):bits .or .i64 (bits .or .i64 ((x1:Int)*65536) ((x2:Int)*256)) (x3:Int)=((x1*65536+x2*256+x3:Nat):Int):=by
 have e1:(x1:Int)*65536=((x1*65536:Nat):Int):=by omega
 have e2:(x2:Int)*256=((x2*256:Nat):Int):=by omega
 have a1:x1*65536|||x2*256=x1*65536+x2*256:=by
  have:=Nat.two_pow_add_eq_or_of_lt (i:=16) (b:=x2*256) (by omega) x1;rw[show 2^16=65536 from rfl,Nat.mul_comm 65536] at this;exact this.symm
 have a2:(x1*65536+x2*256)|||x3=x1*65536+x2*256+x3:=by
  have:=Nat.two_pow_add_eq_or_of_lt (i:=8) (b:=x3) (by omega) (x1*256+x2);rw[show 2^8*(x1*256+x2)=x1*65536+x2*256 by omega] at this;exact this.symm
 rw[e1,e2,WQ _ _ (by omega) (by omega),a1,WQ _ _ (by omega) (by omega),a2]
theorem L6(r:List UInt8){k j:Nat}(h:j<k):(r.take k).getD j 0=r.getD j 0:=by
 simp only[oc,List.getElem?_take,if_pos h]
theorem aaI{w:World}{base n c:Nat}{A:Option Addr}{l:List UInt8}(h:fG w base A n c l)(hn:n=4):∃g,A=some ⟨g,0,none⟩/\∀W,aoV w W->
 W.cell? ⟨g,0,none⟩=some (.int .u8 ((l.getD 0 0).toNat:Int))/\W.cell? ⟨g,1,none⟩=some (.int .u8 ((l.getD 1 0).toNat:Int))/\W.cell? ⟨g,2,none⟩=some (.int .u8 ((l.getD 2 0).toNat:Int))/\W.cell? ⟨g,3,none⟩=some (.int .u8 ((l.getD 3 0).toNat:Int)):=by
 obtain⟨g,rfl,_,hg⟩:=El h (by omega);refine⟨g,rfl,λW hW=>?_⟩;have got:∀j,j<4->W.cell? ⟨g,j,none⟩=some (.int .u8 ((l.getD j 0).toNat:Int)):=λj hj=>by
  obtain⟨b,o,e,hb,hc⟩:=h.rd.byte (k:=j) (by omega);injection e with e;injection e with e1 e2;subst e1;subst e2;rw[dV] at hc;exact(hW.cell (p:=⟨g,j,none⟩) hg).trans hc
 exact⟨got 0 (by omega),got 1 (by omega),got 2 (by omega),got 3 (by omega)⟩
def Qj(t:Nat×Nat×List UInt8×Nat)(k:Nat)(w:World)(e:Ending)(w':World):Prop:=
 ∃A' n' c',e= .returned (.tuple #[.int .i64 t.2.1,.slice A' n' c',.int .i64 (if t.1=0 then(k:Int)+t.2.2.2 else 0),.int .i64 t.1])/\fG w' w.heap.size A' n' c' t.2.2.1/\aoV w w'
theorem Qj.bad{r:Nat×Nat×List UInt8×Nat}{E k:Nat}{w w':World}(h:r=(E,0,[],0))(hE:E≠0)(hn:fG w' w.heap.size none 0 0 [])(hu:aoV w w'):Qj r k w (.returned (.tuple #[.int .i64 0,.slice none 0 0,.int .i64 0,.int .i64 E])) w':=by
 subst h;exact⟨none,0,0,by simp[hE],hn,hu⟩
theorem WR(A:Option Addr)(n c:Nat)(l:List UInt8)(k:Nat)(w:World)(hr:Rd w w.heap.size 1 A n (cu l))(hn:n<=549755813888)(hc:n<=c)(hk:k<=n):
 Calls prog 153 #[.slice A n c,.int .i64 k] w (Qj (ey (l.drop k)) k w):=by
 have tj:∀w0,fG w0 w.heap.size none 0 0 []:=λw0=>fC _ _ _ _
 have mc:=aoU tj;clear tj;have CG:=apo;have hd:=hr.GN (k:=k) hk hc;have bU:Hid ((l.drop k).length=n-k):=by show _=_;have:=hr.gO;rw[List.length_drop,this]
 generalize l.drop k=r at *;have g0:¬((n:Int)<k):=by omega
 have g1:(k:Int)<=n:=by omega
 by_cases h8:n-k<8
 .have hv:ey r=(4,0,[],0):=by unfold ey;rw[if_pos (by rw[bU.out];exact h8)]
  have cd:=aoU hv;have g2:(n:Int)-k<8:=by omega
  clear hv;go_enter func153,ntmps153
  go_wp2_with fail;refine dm (v:= .tuple #[.int .i64 0,.slice none 0 0,.int .i64 0,.int .i64 4]) (by simp[results,results153,go_sem]) rfl ?_;exact .bad (E:=4) cd.out (by omega) (mc.out _) (aoV.refl _)
 .have g2:¬((n:Int)-k<8):=by omega
  have g3:(8:Int)<=(c:Int)-k:=by omega
  have g4:decide ((k:Int)<0)=false:=by simp
  have g5:decide (((n-k:Nat):Int)<8)=false:=by simp;omega
  have Ie:=hd.Pe (k:=8) (by omega);by_cases hE:m' (r.take 8)=0
  .have hL:wK (r.take 8)=r.take 4:=by
    have L7:(r.take 8).length-4=4:=by rw[kT,bU.out];omega
    unfold wK;rw[if_pos hE,L7,List.take_take];rfl
   have hb0:(r.getD 0 0).toNat<256:=(r.getD 0 0).toNat_lt;have fe:(r.getD 1 0).toNat<256:=(r.getD 1 0).toNat_lt;have ao0:(r.getD 2 0).toNat<256:=(r.getD 2 0).toNat_lt;have mQ:(r.getD 3 0).toNat<256:=(r.getD 3 0).toNat_lt;have hT:ey r=if (r.getD 0 0).toNat<1\/100<(r.getD 0 0).toNat\/60000<rU r then(3,0,[],0)
    else if r.length-8<rU r+4 then(4,0,[],0)
    else if m' ((r.drop 8).take (rU r+4))≠0 then(m' ((r.drop 8).take (rU r+4)),0,[],0)
    else(0,(r.getD 0 0).toNat,(r.drop 8).take (rU r),rU r+12):=by
    conv=>lhs;unfold ey
    rw[if_neg (by rw[bU.out];exact h8),if_neg (by simpa using hE)]
   have hh:rU r=(r.getD 1 0).toNat*65536+(r.getD 2 0).toNat*256+(r.getD 3 0).toNat:=rfl;rw[hh,bU.out] at hT;have amD:∀W:World,(Instr.slice 101 (.slice (kH A c k 1) (n-k) (c-k)) (some (.int .i64 8)) none none).run prog W= .ok (.slice (kH (kH A c k 1) (c-k) 8 1) (n-k-8) (c-k-8)) W:=λW=>apo W (kH A c k 1) (n-k) (c-k) .i64 8 (by omega) (by omega)
   have Qk:=hd.GN (k:=8) (cap:=c-k) (by omega) (by omega);have L7:(r.drop 8).length=n-k-8:=by rw[List.length_drop,bU.out]
   have ft:=aoU hE;have cO:=aoU hL;have fk:=aoU hT;have aaJ:=aoU L7;clear hL hE hT hh L7;go_enter func153,ntmps153
   go_wp2_with fail;refine(L4 _ 8 _ (r.take 8) w Ie (by omega) (by omega)).mono ?_;rintro e w1⟨fX,n1,c1,rfl,gu,hu1⟩;rw[cO.out] at gu;rw[ft.out];have fj:n1=4:=by have:=gu.len;rw[this,kT,bU.out];omega
   subst fj;obtain⟨g,rfl,AK⟩:=aaI gu rfl;rw[L6 r (by omega),L6 r (by omega),L6 r (by omega),L6 r (by omega)] at AK;clear gu;generalize (r.getD 0 0).toNat=x0 at *;generalize (r.getD 1 0).toNat=x1 at *;generalize (r.getD 2 0).toNat=x2 at *;generalize (r.getD 3 0).toNat=x3 at *;generalize r.drop 8=r2 at *;obtain⟨c0,-,-,-⟩:=AK w1 (aoV.refl _);go_wp2_with fail;have v1:IntKind.i64.wrap (x1:Int)=x1:=IntWalk.i64_in _ (by omega);have v2:IntKind.i64.wrap (x2:Int)=x2:=IntWalk.i64_in _ (by omega);have v3:IntKind.i64.wrap (x3:Int)=x3:=IntWalk.i64_in _ (by omega)
   have v4:IntKind.i64.wrap ((x1:Int)*65536)=(x1:Int)*65536:=IntWalk.i64_in _ (by omega);have v5:IntKind.i64.wrap ((x2:Int)*256)=(x2:Int)*256:=IntWalk.i64_in _ (by omega);have v6:=aaH x1 x2 x3 fe ao0 mQ;have hNb:x1*65536+x2*256+x3<16777216:=by omega
   generalize hN:x1*65536+x2*256+x3=N at v6 hNb;have hT:=fk.out;rw[hN] at hT;have L8:=aoU hT;clear hN hT fk;apply V.fQ _ (by kernel_rfl) (by kernel_rfl) AK
   .intro aF aoX;iterate 17 (apply V.aj.ok;intros;go_simp;rfl;rfl;go_frame)
    apply V.aj.fin [];intro vs w1 hK hS _;refine aoX.out _ _ ?_;clear aoX;have aq:=hu1.trans (jR hK);clear v1 v2 v3 v4 v5 v6 AK c0 hS;have WS:∀(h:x0<1\/100<x0\/60000<N),ey r=(3,0,[],0):=λh=>by rw[L8.out,if_pos h]
    have wG:=aoU WS;clear WS;by_cases hx1:x0<1
    .have g6:decide ((x0:Int)<1)=true:=by simp;omega
     go_wp2_with fail;refine dm (v:= .tuple #[.int .i64 0,.slice none 0 0,.int .i64 0,.int .i64 3]) (by simp[results,results153,go_sem]) rfl ?_;exact .bad (E:=3) (wG.out (.inl hx1)) (by omega) (mc.out _) aq
    have g6:decide ((x0:Int)<1)=false:=by simp;omega
    by_cases hx2:100<x0
    .have g7:decide (100<(x0:Int))=true:=by simp;omega
     go_wp2_with fail;refine dm (v:= .tuple #[.int .i64 0,.slice none 0 0,.int .i64 0,.int .i64 3]) (by simp[results,results153,go_sem]) rfl ?_;exact .bad (E:=3) (wG.out (.inr (.inl hx2))) (by omega) (mc.out _) aq
    have g7:decide (100<(x0:Int))=false:=by simp;omega
    by_cases hx3:60000<N
    .have g8:decide (60000<(N:Int))=true:=by simp;omega
     go_wp2_with fail;refine dm (v:= .tuple #[.int .i64 0,.slice none 0 0,.int .i64 0,.int .i64 3]) (by simp[results,results153,go_sem]) rfl ?_;exact .bad (E:=3) (wG.out (.inr (.inr hx3))) (by omega) (mc.out _) aq
    have g8:decide (60000<(N:Int))=false:=by simp;omega
    by_cases tp:n-k-8<N+4
    .have hv:ey r=(4,0,[],0):=by rw[L8.out,if_neg (by omega),if_pos tp]
     have cd:=aoU hv;clear hv;go_wp2_with fail;refine dm (v:= .tuple #[.int .i64 0,.slice none 0 0,.int .i64 0,.int .i64 4]) (by simp[results,results153,go_sem]) rfl ?_;exact .bad (E:=4) cd.out (by omega) (mc.out _) aq
    have hdt:=(Qk.Pe (k:=N+4) (by omega)).up aq;by_cases rm:m' (r2.take (N+4))=0
    .have hv:ey r=(0,x0,r2.take N,N+12):=by rw[L8.out,if_neg (by omega),if_neg (by omega),if_neg (by simpa using rm)]
     have L9:wK (r2.take (N+4))=r2.take N:=by
      have Ql:(r2.take (N+4)).length-4=N:=by rw[kT,aaJ.out];omega
      unfold wK;rw[if_pos rm,Ql,List.take_take,Nat.min_eq_left (by omega)]
     have cd:=aoU hv;have H5:=aoU rm;have aaK:=aoU L9;clear hv rm L9;go_wp2_with fail;refine(L4 _ (N+4) _ _ w1 hdt (by omega) (by omega)).mono ?_;rintro e w3⟨rl,n3,c3,rfl,oU,bV⟩;rw[H5.out];rw[aaK.out] at oU;have ui:=jP oU aq.size;have eO:=aq.trans bV;clear oU hdt Qk hd hr Ie;go_wp2_with fail;refine dm (v:= .tuple #[.int .i64 x0,.slice rl n3 c3,.int .i64 ((k:Int)+4+4+N+4),.int .i64 0]) (by simp[results,results153,go_sem]) rfl ?_;rw[cd.out];refine⟨rl,n3,c3,?_,ui,eO⟩
     have aaL:(k:Int)+4+4+N+4=(k:Int)+((N+12:Nat):Int):=by omega
     rw[aaL];rfl
    .have hv:ey r=(m' (r2.take (N+4)),0,[],0):=by rw[L8.out,if_neg (by omega),if_neg (by omega),if_pos rm]
     have cd:=aoU hv;clear hv;go_wp2_with fail;refine(L4 _ (N+4) _ _ w1 hdt (by omega) (by omega)).mono ?_;rintro e w3⟨rl,n3,c3,rfl,oU,bV⟩;generalize m' (r2.take (N+4))=If at *;have WT:¬(If:Int)=0:=by omega
     have eO:=aq.trans bV;clear oU hdt Qk hd hr Ie;go_wp2_with fail;refine dm (v:= .tuple #[.int .i64 0,.slice none 0 0,.int .i64 0,.int .i64 If]) (by simp[results,results153,go_sem]) rfl ?_;exact .bad cd.out rm (mc.out _) eO
   .kernel_rfl
  .have hv:ey r=(m' (r.take 8),0,[],0):=by unfold ey;rw[if_neg (by rw[bU.out];exact h8),if_pos hE]
   have cd:=aoU hv;clear hv;go_enter func153,ntmps153
   go_wp2_with fail;refine(L4 _ 8 _ (r.take 8) w Ie (by omega) (by omega)).mono ?_;rintro e w1⟨fX,n1,c1,rfl,gu,hu1⟩;generalize m' (r.take 8)=If at *;have WT:¬(If:Int)=0:=by omega
   clear gu Ie hd hr;go_wp2_with fail;refine dm (v:= .tuple #[.int .i64 0,.slice none 0 0,.int .i64 0,.int .i64 If]) (by simp[results,results153,go_sem]) rfl ?_;exact .bad cd.out hE (mc.out _) hu1
theorem aaM(A:Option Addr)(n c:Nat)(l:List UInt8)(at_:Int)(w:World)(hr:Rd w w.heap.size 1 A n (cu l))(hn:n<=549755813888)(hc:n<=c):
 Calls prog 153 #[.slice A n c,.int .i64 at_] w λe w'=>∃A' n' c',e= .returned (.tuple #[.int .i64 ((wN l at_).2.1:Int),.slice A' n' c',.int .i64 (wN l at_).2.2.2,.int .i64 ((wN l at_).1:Int)])/\fG w' w.heap.size A' n' c' (wN l at_).2.2.1/\aoV w w':=by
 have hl:=hr.gO;by_cases h0:at_<0\/(n:Int)<at_
 .have hv:wN l at_=(1,0,[],0):=by unfold wN;rw[if_pos (by rw[<- hl];exact h0)]
  have cd:=aoU hv;clear hv;rcases h0 with h0|h0
  .go_enter func153,ntmps153
   go_wp2_with fail;refine dm (v:= .tuple #[.int .i64 0,.slice none 0 0,.int .i64 0,.int .i64 1]) (by simp[results,results153,go_sem]) rfl ?_;rw[cd.out];exact⟨none,0,0,rfl,fC _ _ _ _,aoV.refl _⟩
  .have h1:¬at_<0:=by omega
   have jX:decide (at_<0)=false:=by simp;omega
   go_enter func153,ntmps153
   go_wp2_with fail;refine dm (v:= .tuple #[.int .i64 0,.slice none 0 0,.int .i64 0,.int .i64 1]) (by simp[results,results153,go_sem]) rfl ?_;rw[cd.out];exact⟨none,0,0,rfl,fC _ _ _ _,aoV.refl _⟩
 .obtain⟨k,rfl⟩:=Int.eq_ofNat_of_zero_le (show 0<=at_ by omega);have hv:wN l (k:Int)=((ey (l.drop k)).1,(ey (l.drop k)).2.1,(ey (l.drop k)).2.2.1,if (ey (l.drop k)).1=0 then(k:Int)+(ey (l.drop k)).2.2.2 else 0):=by
   unfold wN;rw[if_neg (by rw[<- hl];exact h0)];rfl
  refine(WR A n c l k w hr hn hc (by omega)).mono ?_;rintro e w'⟨A',n',c',rfl,ho,hu⟩;rw[hv];exact⟨A',n',c',rfl,ho,hu⟩
theorem AN{w w':World}{base base':Nat}{e e':TypeId}{sz sz' n n':Nat}{v v':Value}{xs xs':List Value}(h:w.ownsRow base e sz v n xs)(h':w.ownsRow base' e' sz' v' n' xs')(hne:e≠e')(hg:w.grownBy w' v.ownBlock):w'.ownsRow base' e' sz' v' n' xs':=by
 refine⟨h'.1,?_⟩;rcases h'.2 with h2|⟨g,cap,cur,rfl,hb,hh,r⟩
 .exact .inl h2
 .refine .inr ⟨g,cap,cur,rfl,hb,(hg.block g (aB hh) (λe0=>?_)).trans hh,r⟩;rcases h.2 with⟨rfl,_⟩|⟨g1,amF,EW,rfl,_,oV,_⟩
  .simp[Value.ownBlock] at e0
  .have:g1=g:=by simpa[Value.ownBlock] using e0.symm
   subst this;rw[hh] at oV;injection oV with oV;injection oV with _ ht;exact hne ht.symm
def wO(l:List Nat):List Value:=l.map λ(k:Nat)=>Value.int .i64 k
theorem aaR(l:List Nat):∀u∈wO l,u.oneCell'=true:=by
 intro u hu;simp only[wO,List.mem_map] at hu;obtain⟨b,_,rfl⟩:=hu;rfl
def mA(l:List UInt8):Nat->Nat->List Nat->List (List UInt8)->List Nat×List (List UInt8)×Nat×Nat
 |0,k,ks,bs=>(ks,bs,k,0)
 |f+1,k,ks,bs=>if k<l.length then
  (if (ey (l.drop k)).1=0 then mA l f (k+(ey (l.drop k)).2.2.2) (ks++[(ey (l.drop k)).2.1]) (bs++[(ey (l.drop k)).2.2.1]) else(ks,bs,k,(ey (l.drop k)).1))
  else(ks,bs,k,0)
def li(l:List UInt8):List Nat×List (List UInt8)×Nat×Nat:=mA l (l.length+1) 0 [] []
theorem aaS{r:List UInt8}(h:(ey r).1=0):12<=(ey r).2.2.2/\(ey r).2.2.2<=r.length/\(ey r).2.2.2=(ey r).2.2.1.length+12/\(ey r).2.1<256:=by
 unfold ey at h|-;have hb:(r.getD 0 0).toNat<256:=(r.getD 0 0).toNat_lt;split at h
 .cases h
 .rename_i h1;rw[if_neg h1];split at h
  .rename_i h2;exact absurd h h2
  .rename_i h2;rw[if_neg h2];split at h
   .cases h
   .rename_i h3;rw[if_neg h3];split at h
    .cases h
    .rename_i h4;rw[if_neg h4];split at h
     .rename_i h5;exact absurd h h5
     .rename_i h5;rw[if_neg h5];simp only[kT,List.length_drop];omega
def EX(w:World)(base:Nat)(ps:List lX)(bs:List (List UInt8)):Prop:=ps.map (·.l)=bs/\∀p∈ps,fG w base p.A p.n p.c p.l
theorem EX.up{w w':World}{base:Nat}{ps:List lX}{bs:List (List UInt8)}(h:EX w base ps bs)(hu:aoV w w'):EX w' base ps bs:=⟨h.1,λp hp=>(h.2 p hp).up hu⟩
theorem Qn:jr prog 67 3 1 8:=jr.mk' underlying67 (z:= .int .i64 0) (by kernel_rfl) rfl (by decide)
theorem aaT:jr prog 311 101 1 24:=jr.mk' underlying311 (z:= .slice none 0 0) (by kernel_rfl) rfl (by decide)
def Ma(w:World)(base:Nat)(A:Option Addr)(n c:Nat)(l:List Nat):Prop:=w.ownsRow base 3 1 (.slice A n c) n (wO l)
def Ih(w:World)(base:Nat)(A:Option Addr)(n c:Nat)(ps:List lX):Prop:=w.ownsRow base 101 1 (.slice A n c) n (ps.map lX.v)
def aaU(t:List Nat×List (List UInt8)×Nat×Nat)(w:World)(e:Ending)(w':World):Prop:=
 ∃K kn kc R rn rc ps,e= .returned (.tuple #[.slice K kn kc,.slice R rn rc,.int .i64 t.2.2.1,.int .i64 t.2.2.2])/\Ma w' w.heap.size K kn kc t.1/\Ih w' w.heap.size R rn rc ps/\EX w' w.heap.size ps t.2.1/\aoV w w'
theorem WX(A:Option Addr)(n c:Nat)(l:List UInt8)(w:World)(hr:Rd w w.heap.size 1 A n (cu l))(hn:n<=549755813888)(hc:n<=c):
 Calls prog 223 #[.slice A n c] w (aaU (li l) w):=by
 have bU:=aoU hr.gO;go_enter func223,ntmps223
 go_wp2_with fail;go_loopw[2,3,4] (λkv rv i wr=>∃(k:Nat)(K:Option Addr)(kn kc:Nat)(R:Option Addr)(rn rc:Nat)(ks:List Nat)(ps:List lX)(bs:List (List UInt8)),i= .int .i64 k/\kv= .slice K kn kc/\rv= .slice R rn rc/\k<=n/\kn<=k/\rn<=k/\
  Ma wr w.heap.size K kn kc ks/\Ih wr w.heap.size R rn rc ps/\EX wr w.heap.size ps bs/\Hid (∃f,n-k<f/\mA l f k ks bs=li l)/\aoV w wr) (λ_ _ i _=>n-(intOf i).toNat)
 case atStart=>exact⟨0,none,0,0,none,0,0,[],[],[],rfl,rfl,rfl,by omega,by omega,by omega,fC _ _ _ _,fC _ _ _ _,⟨rfl,λp hp=>by cases hp⟩,⟨l.length+1,by have:=bU.out;omega,rfl⟩,aoV.refl _⟩
 case round=>
  obtain⟨k,K,kn,kc,R,rn,rc,ks,ps,bs,rfl,rfl,rfl,hk,hkn,jW,hK,hR,hP,dz,hu⟩:=hrel;by_cases hlt:k<n
  .go_wp2_with fail;refine(WR A n c l k wr (hr.up hu) hn hc hk).mono ?_;rintro e w1⟨fX,n1,c1,rfl,gu,hu1⟩;have aq:=hu.trans hu1;have hsz:=hu.size;have qk:=jP gu hsz;have tr:Ma w1 w.heap.size K kn kc ks:=el hK hu1;have CN:Ih w1 w.heap.size R rn rc ps:=el hR hu1;have Qo:=hP.up hu1;clear gu hK hR hP;by_cases he:(ey (l.drop k)).1=0
   .have hok:=aaS he;have hst:∃f,n-(k+(ey (l.drop k)).2.2.2)<f/\mA l f (k+(ey (l.drop k)).2.2.2) (ks++[(ey (l.drop k)).2.1]) (bs++[(ey (l.drop k)).2.2.1])=li l:=by
     obtain⟨f,hf,h⟩:=dz.out
     match f,hf,h with
     |f+1,hf,h=>
      refine⟨f,by omega,?_⟩;rw[<- h]
      conv=>rhs;unfold mA
      rw[if_pos (by rw[<- bU.out];exact hlt),if_pos he]
    have hG:=aoU hst;rw[if_pos he,he];have hdl:(l.drop k).length=n-k:=by rw[List.length_drop,bU.out]
    rw[hdl] at hok;clear hst he dz hdl;generalize (ey (l.drop k)).2.1=tk at *;generalize (ey (l.drop k)).2.2.1=tb at *;generalize (ey (l.drop k)).2.2.2=tn at *;obtain⟨q1,cP,-,eX⟩:=hok;have hcast:(k:Int)+(tn:Int)=((k+tn:Nat):Int):=by omega
    rw[hcast];clear hcast;go_wp2_with (first
     |(at_builtin;refine iF _ Qn (news:=wO [tk]) (lu tr _) (Rd.box _ _ _) (aaR _) (by omega) (by omega) (by simp;have:=aq.size;omega) rfl rfl rfl rfl ?_;intro v3 w3 rk kM EM;obtain⟨rQ,WY,rfl⟩:=eL rk)
     |(at_builtin;refine iF _ aaT (news:= [Value.slice fX n1 c1]) (lu (AN (lu tr _) (lu CN _) (by decide) kM) _) (Rd.box _ _ _) (by intro u hu;simp at hu;subst hu;rfl) (by omega) (by omega) (by simp;have:=aq.size;have:=kM.size;simp at this;omega) rfl rfl rfl rfl ?_;intro v4 w4 ts x7 aaV;obtain⟨uj,wP,rfl⟩:=eL ts))
    have bV:aoV w w3:=(aq.alloc _).grown kM (λg hg=>(tr.lt g hg).1);have eO:aoV w w4:=(bV.alloc _).grown x7 (λg hg=>(CN.lt g hg).1);have WZ:Ih w3 w.heap.size R rn rc ps:=AN (lu tr _) (lu CN _) (by decide) kM;have qp:Ma w4 w.heap.size rQ (kn+1) WY (ks++[tk]):=by
     show World.ownsRow _ _ _ _ _ _ _;have e:wO (ks++[tk])=wO ks++wO [tk]:=by simp[wO]
     rw[e];exact AN (lu WZ _) (lu rk _) (by decide) x7
    have aaW:Ih w4 w.heap.size uj (rn+1) wP (ps++[⟨fX,n1,c1,tb⟩]):=by
     show World.ownsRow _ _ _ _ _ _ _;have e:(ps++[(⟨fX,n1,c1,tb⟩:lX)]).map lX.v=ps.map lX.v++[Value.slice fX n1 c1]:=by simp[lX.v]
     rw[e];exact ts
    have W4:∀(A:Option Addr)(n c:Nat)(l:List UInt8),fG w1 w.heap.size A n c l->fG w4 w.heap.size A n c l:=λA n c l h=>
     AN (lu WZ _) (lu (AN (lu tr _) (lu h _) (by decide) kM) _) (by decide) x7
    have aaX:EX w4 w.heap.size (ps++[⟨fX,n1,c1,tb⟩]) (bs++[tb]):=by
     refine⟨by rw[kU,Qo.1];rfl,λp hp=>?_⟩;rcases List.mem_append.1 hp with hp|hp
     .exact W4 _ _ _ _ (Qo.2 p hp)
     .simp only[fi] at hp;subst hp;exact W4 _ _ _ _ qk
    clear kM x7 EM aaV rk ts;go_roundw
    case rel=>exact⟨k+tn,rQ,kn+1,WY,uj,rn+1,wP,ks++[tk],ps++[⟨fX,n1,c1,tb⟩],bs++[tb],by go_num,rfl,rfl,by omega,by omega,by omega,qp,aaW,aaX,hG.out,eO⟩
    case measure=>simp[intOf];omega
   .have hst:li l=(ks,bs,k,(ey (l.drop k)).1):=by
     obtain⟨f,hf,h⟩:=dz.out
     match f,hf,h with
     |f+1,hf,h=>
      rw[<- h]
      conv=>lhs;unfold mA
      rw[if_pos (by rw[<- bU.out];exact hlt),if_neg he]
    have hG:=aoU hst;rw[if_neg he];clear hst dz;generalize (ey (l.drop k)).1=E at *;generalize (ey (l.drop k)).2.1=tk at *;have WT:¬(E:Int)=0:=by omega
    go_wp2_with fail;refine dm (v:= .tuple #[.slice K kn kc,.slice R rn rc,.int .i64 k,.int .i64 E]) (by simp[results,results223,go_sem]) rfl ?_;rw[hG.out];exact⟨K,kn,kc,R,rn,rc,ps,rfl,tr,CN,Qo,aq⟩
  .have aaY:k=n:=by omega
   subst aaY;have hst:li l=(ks,bs,k,0):=by
    obtain⟨f,hf,h⟩:=dz.out
    match f,hf,h with
    |f+1,hf,h=>
     rw[<- h]
     conv=>lhs;unfold mA
     rw[if_neg (by rw[<- bU.out];exact hlt)]
   have hG:=aoU hst;clear hst dz;go_wp2_with fail;refine dm (v:= .tuple #[.slice K kn kc,.slice R rn rc,.int .i64 k,.int .i64 0]) (by simp[results,results223,go_sem]) rfl ?_;rw[hG.out];exact⟨K,kn,kc,R,rn,rc,ps,rfl,hK,hR,hP,hu⟩
section
variable{σ:Type}(step:σ->Nat->List UInt8->Option σ)
def aaZ(l:List UInt8):Nat->Nat->σ->Option (σ×Nat)
 |0,k,s=>some (s,k)
 |f+1,k,s=>if k<l.length then
  (
   if (ey (l.drop k)).1=0 then(match step s (ey (l.drop k)).2.1 (ey (l.drop k)).2.2.1 with|none=>none|some s'=>aaZ l f (k+(ey (l.drop k)).2.2.2) s')
   else if (ey (l.drop k)).1=4 then some (s,k) else none)
  else some (s,k)
def ro:σ->List Nat->List (List UInt8)->Option σ
 |s,k::ks,b::bs=>match step s k b with|none=>none|some s'=>ro s' ks bs
 |s,_,_=>some s
theorem Mb(l:List UInt8):∀(f k:Nat)(ks:List Nat)(bs:List (List UInt8)),mA l f k ks bs=(ks++(mA l f k [] []).1,bs++(mA l f k [] []).2.1,(mA l f k [] []).2.2.1,(mA l f k [] []).2.2.2)
 |0,k,ks,bs=>by simp[mA]
 |f+1,k,ks,bs=>by
  unfold mA;by_cases h1:k<l.length
  .rw[if_pos h1,if_pos h1];by_cases h2:(ey (l.drop k)).1=0
   .rw[if_pos h2,if_pos h2,Mb l f _ (ks++_) (bs++_),Mb l f _ ([]++_) ([]++_)];simp
   .rw[if_neg h2,if_neg h2];simp
  .rw[if_neg h1,if_neg h1];simp
theorem Qp:∀(ks ks':List Nat)(bs bs':List (List UInt8))(s:σ),ks.length=bs.length->ro step s (ks++ks') (bs++bs')=(ro step s ks bs).bind λs'=>ro step s' ks' bs'
 | [],ks',[],bs',s,_=>rfl
 |k::ks,ks',b::bs,bs',s,h=>by
  simp only[List.cons_append,ro];cases step s k b with
  |none=>rfl
  |some s'=>exact Qp ks ks' bs bs' s' (by simpa using h)
theorem aa0{ks:List Nat}{bs:List (List UInt8)}{k:Nat}{b:List UInt8}{s s':σ}(h:ks.length=bs.length)(hs:ro step s ks bs=some s'):ro step s (ks++[k]) (bs++[b])=step s' k b:=by
 rw[Qp step ks [k] bs [b] s h,hs];simp only[Option.bind_some,ro];cases step s' k b <;>rfl
theorem aa1{ks:List Nat}{bs:List (List UInt8)}{s:σ}(j:Nat)(h:ks.length=bs.length)(hn:ro step s (ks.take j) (bs.take j)=none):ro step s ks bs=none:=by
 have h2:=Qp step (ks.take j) (ks.drop j) (bs.take j) (bs.drop j) s (by simp[h]);rw[List.take_append_drop,List.take_append_drop] at h2;rw[h2,hn];rfl
end
theorem aa2(r:List UInt8):(ey r).2.2.1.length<=r.length:=by
 unfold ey;repeat' split
 all_goals first|exact Nat.zero_le _|(simp only[kT,List.length_drop];omega)
theorem W5(l:List UInt8):∀(f k:Nat),∀b∈(mA l f k [] []).2.1,b.length<=l.length
 |0,k,b,hb=>by simp[mA] at hb
 |f+1,k,b,hb=>by
  unfold mA at hb;by_cases h1:k<l.length
  .rw[if_pos h1] at hb;by_cases h2:(ey (l.drop k)).1=0
   .rw[if_pos h2,Mb l f] at hb;simp only[gY,List.singleton_append,List.mem_cons] at hb;rcases hb with e|hb
    .rw[e];have:=aa2 (l.drop k);rw[List.length_drop] at this;omega
    .exact W5 l f _ b hb
   .rw[if_neg h2] at hb;simp at hb
  .rw[if_neg h1] at hb;simp at hb
theorem aa3(l:List UInt8):∀b∈(li l).2.1,b.length<=l.length:=W5 l _ _
theorem W6(l:List UInt8):∀(f k:Nat),(mA l f k [] []).1.length=(mA l f k [] []).2.1.length/\(mA l f k [] []).1.length<=f
 |0,k=>by simp[mA]
 |f+1,k=>by
  unfold mA;by_cases h1:k<l.length
  .rw[if_pos h1];by_cases h2:(ey (l.drop k)).1=0
   .rw[if_pos h2,Mb l f];have ih:=W6 l f (k+(ey (l.drop k)).2.2.2);simp only[gY,List.singleton_append,iu];omega
   .rw[if_neg h2];simp
  .rw[if_neg h1];simp
theorem aa4(l:List UInt8):(li l).1.length=(li l).2.1.length/\(li l).1.length<=l.length+1:=W6 l _ _
theorem W7(l:List UInt8):m' (iB l)=0:=by
 have h:(iB l).length-4=l.length:=by rw[EV];omega
 have h2:(iB l).take l.length=l:=by unfold iB;rw[List.take_left]
 unfold m';rw[if_neg (by rw[EV];omega),h,h2,if_pos rfl]
theorem aa5(k:Nat)(h:k<256):(byteOf (k:Int)).toNat=k:=by
 unfold byteOf;rw[show((k:Int)%256).toNat=k by omega];simp;omega
theorem W8(k:Nat)(l rest:List UInt8)(iU:1<=k)(hk2:k<=100)(hl:l.length<=60000):ey (lF (k:Int) l++rest)=(0,k,l,l.length+12):=by
 have e:lF (k:Int) l++rest=iB (pI (k:Int) l.length)++(iB l++rest):=by simp[lF]
 have hh:(iB (pI (k:Int) l.length)).length=8:=by rw[EV];rfl
 have hlen:(lF (k:Int) l++rest).length=12+l.length+rest.length:=by rw[dG,AJ];omega
 have h8:(lF (k:Int) l++rest).take 8=iB (pI (k:Int) l.length):=by rw[e,<- hh,List.take_left]
 have hd:(lF (k:Int) l++rest).drop 8=iB l++rest:=by rw[e,<- hh,List.drop_left]
 have g:∀j,j<4->(lF (k:Int) l++rest).getD j 0=(pI (k:Int) l.length).getD j 0:=by
  intro j hj;rw[e];unfold iB;simp only[oc];rw[jg,List.getElem?_append_left (by simpa[pI] using hj)]
 have hN:rU (lF (k:Int) l++rest)=l.length:=by
  unfold rU;rw[g 1 (by omega),g 2 (by omega),g 3 (by omega)];have e1:(l.length / 65536)%256*65536+(l.length / 256)%256*256+l.length%256=l.length:=by omega
  simpa[pI,List.getD] using e1
 have h0:((lF (k:Int) l++rest).getD 0 0).toNat=k:=by rw[g 0 (by omega)];exact aa5 k (by omega)
 unfold ey;have ht:(iB l++rest).take (l.length+4)=iB l:=by rw[<- EV l,List.take_left]
 have ht2:(iB l++rest).take l.length=l:=by unfold iB;rw[jg,List.take_left]
 rw[if_neg (by rw[hlen];omega),h8,W7,if_neg (by simp),h0,hN,if_neg (by omega),if_neg (by rw[hlen];omega),hd,ht,W7,if_neg (by simp),ht2]
theorem aa6(b:List UInt8)(k:Nat)(l rest:List UInt8)(iU:1<=k)(hk2:k<=100)(hl:l.length<=60000):wN (b++(lF (k:Int) l++rest)) (b.length:Int)=(0,k,l,((b.length+(l.length+12):Nat):Int)):=by
 unfold wN;rw[if_neg (by simp;omega)];have e:(b++(lF (k:Int) l++rest)).drop ((b.length:Int)).toNat=lF (k:Int) l++rest:=by simp
 rw[e,W8 k l rest iU hk2 hl];simp
def Me(ps:List lX):List (List UInt8):=ps.map (·.l)
theorem Md.at_{w:World}{A:Option Addr}{n c:Nat}{ps:List lX}(h:Md w A n c ps){k:Nat}(hk:k<n):
 ∃b o p,A=some ⟨b,o,none⟩/\ps[k]?=some p/\(Me ps)[k]?=some p.l/\p.n<=p.c/\p.n=p.l.length/\p.c<=9223372036854775807/\∀W,aoV w W->W.cell? ⟨b,o+k,none⟩=some (.slice p.A p.n p.c)/\Rd W W.heap.size 1 p.A p.n (cu p.l):=by
 obtain⟨hr,hp,hc1,kJ⟩:=h;have hn:n=ps.length:=by have:=hr.1;rw[iZ] at this;omega
 obtain⟨b,o,e,hb,hc⟩:=hr.2 (by omega);have bS:k<ps.length:=by omega
 have AI:=hp ps[k] (List.getElem_mem _);refine⟨b,o,ps[k],e,dh bS,by simp[Me,bS],AI.2.1,AI.1.gO,AI.2.2,λW hW=>⟨?_,AI.1.up hW⟩⟩;have h1:=hc k (ps[k]).v (by simp[bS]);exact(hW.cell (p:=⟨b,o+k,none⟩) hb).trans h1
theorem Md.len{w:World}{A:Option Addr}{n c:Nat}{ps:List lX}(h:Md w A n c ps):n=(Me ps).length:=by have:=h.1.1;simp[Me] at *;omega
def qq:aC:=⟨0,0,0,0,0⟩
theorem AO:jr prog 30 37 5 40:=jr.mk' underlying30 (z:= .agg #[.int .i64 0,.int .i64 0,.int .u64 0,.int .u64 0,.int .i64 0]) (by kernel_rfl) rfl (by decide)
def ej(w:World)(base:Nat)(A:Option Addr)(n c:Nat)(l:List aC):Prop:=w.ownsRow base 37 5 (.slice A n c) n (bl l)
section
variable{w w':World}{base n c:Nat}{A:Option Addr}{l:List aC}
theorem ej.rd(h:ej w base A n c l):Rd w w.heap.size 5 A n (bl l):=Rd.own h
theorem ej.len(h:ej w base A n c l):n=l.length:=h.rd.og
theorem ej.up(h:ej w base A n c l)(hu:aoV w w'):ej w' base A n c l:=el h hu
end
section
variable{σ:Type}(step:σ->Nat->List UInt8->Option σ)
end
section
variable{σ:Type}(step:σ->Nat->List UInt8->Option σ)
end
theorem Xg{q:List aC}(h:lh q=0):fh q=lF ((1:Nat):Int) (oT q)/\(oT q).length<=60000:=by
 obtain⟨-,-,h3,-,-⟩:=aay h;unfold fh;rw[if_pos h];exact⟨rfl,h3⟩
theorem aa7{q:List aC}(h:lh q=0):12<=(fh q).length/\(fh q).length<=60012:=by
 obtain⟨h1,h2⟩:=Xg h;rw[h1,AJ];omega
end
section
abbrev oi(l:List aC):Prop:=l.Pairwise (λa b=>fR a b=true)
def eY(l:List aC)(x:aC):Nat:=l.findIdx λy=> !fR y x
def kD(l:List aC)(x:aC):Bool:=(l[eY l x]?).any λy=>xX y x
def pK(s:Int64):aC:=⟨s,1,0,0,0⟩
def uk(l:List aC)(s:Int64):Option aC:=if kD l (pK s)=true then l[eY l (pK s)]? else none
def mB(l:List aC)(x:aC):Bool:=(uk l x.s).any λt=>ti t x
def dE(l:List aC)(x:aC):List aC:=
 if okB x=false\/mB l x=true then l
 else if kD l x=true then
  (if (l[eY l x]?).any (λy=>CJ x y)=true then(l.set (eY l x) x).filter (λy=> !ti x y) else l)
 else(l.take (eY l x)++x::l.drop (eY l x)).filter λy=> !ti x y
def pL(l:List aC)(k:Nat):Bool:=(List.range k).all λi=>okB (l.getD i qq)&&((i==0||fR (l.getD (i-1) qq) (l.getD i qq)) && !mB (l.take i) (l.getD i qq))
def AP(l:List aC):Bool:=pL l l.length
def rq(l:List aC)(s:Int64):List aC:=l.filter λx=>decide (x.s=s)
def jk(a b:List aC):List aC:=b.foldl dE (if AP a=true then a else a.foldl dE [])
theorem zh(a b:aC):fR a b=true↔(a.s.toInt<b.s.toInt\/a.s.toInt=b.s.toInt/\(a.k.toInt<b.k.toInt\/a.k.toInt=b.k.toInt/\a.t.toNat<b.t.toNat)):=by
 unfold fR Hx;rw[lw]
theorem Ik{a b c:aC}(h1:fR a b=true)(h2:fR b c=true):fR a c=true:=by
 rw[zh] at *;omega
theorem oi.mono{l:List aC}(h:oi l){x:aC}{a b:Nat}(hab:a<=b)(hb:b<l.length)(ha:fR (l[a]'(by omega)) x=false):fR l[b] x=false:=by
 rcases Nat.eq_or_lt_of_le hab with e|e
 .subst e;exact ha
 .have h1:=(List.pairwise_iff_getElem.1 h) a b (by omega) hb e;rw[<- Bool.not_eq_true] at ha|-;exact λh2=>ha (Ik h1 h2)
theorem abg{l:List aC}(h:oi l){x:aC}{i:Nat}(hi:i<=l.length)(h1:∀j (hj:j<l.length),j<i->fR l[j] x=true)(h2:∀j (hj:j<l.length),i<=j->fR l[j] x=false):eY l x=i:=by
 unfold eY;rcases Nat.eq_or_lt_of_le hi with e|e
 .subst e;rw[List.findIdx_eq_length];intro y hy;obtain⟨j,hj,rfl⟩:=List.getElem_of_mem hy;rw[h1 j hj hj];rfl
 .rw[List.findIdx_eq e];exact⟨by rw[h2 i e (aZ _)];rfl,λj hj=>by rw[h1 j (by omega) hj];rfl⟩
theorem abh(l:List aC)(x:aC):eY l x<=l.length:=List.findIdx_le_length
theorem apR{l:List aC}{x:aC}{j:Nat}(hj:j<l.length)(h:j<eY l x):fR l[j] x=true:=by
 have:=List.not_of_lt_findIdx h;simpa using this
theorem abj{l:List aC}{x:aC}(h:eY l x<l.length):fR l[eY l x] x=false:=by
 have h1:(!fR (l[eY l x]) x)=true:=List.findIdx_getElem (p:=λy=> !fR y x) (xs:=l) (w:=h);simpa using h1
theorem Mm(a b:aC):xX a b=true↔(fR a b=false/\fR b a=false):=by
 unfold xX;simp
theorem oi.filter{l:List aC}(h:oi l)(p:aC->Bool):oi (l.filter p):=List.Pairwise.filter _ h
theorem abk{l:List aC}(h:oi l)(x:aC):oi (dE l x):=by
 unfold dE;split;exact h
 .split
  .rename_i h0 hat;split
   .refine oi.filter ?_ _;have hlt:eY l x<l.length:=by
     rcases Nat.lt_or_ge (eY l x) l.length with h9|h9
     .exact h9
     .unfold kD at hat;rw[List.getElem?_eq_none h9] at hat;cases hat
    have Mn:xX l[eY l x] x=true:=by
     unfold kD at hat;rw[dh hlt] at hat;exact hat
    have hs2:=(Mm _ _).1 Mn;have eqv:∀y,(fR y x=fR y l[eY l x])/\(fR x y=fR l[eY l x] y):=λy=>by
     have a1:=zh y x;have a2:=zh y l[eY l x];have a3:=zh x y;have a4:=zh l[eY l x] y;have b1:=zh l[eY l x] x;have b2:=zh x l[eY l x];rw[hs2.1] at b1;rw[hs2.2] at b2;simp only[Bool.false_eq_true,false_iff] at b1 b2;constructor
     .rw[Bool.eq_iff_iff,a1,a2];omega
     .rw[Bool.eq_iff_iff,a3,a4];omega
    have h:=List.pairwise_iff_getElem.1 h;refine List.pairwise_iff_getElem.2 ?_;intro i j hi hj hij;rw[List.length_set] at hi hj;rw[List.getElem_set,List.getElem_set];have:=h i j hi hj hij;split
    .rename_i e1;split;omega
     .rw[(eqv _).2];subst e1;exact this
    .split
     .rename_i e2;rw[(eqv _).1];subst e2;exact this
     .exact this
   .exact h
  .rename_i h0 hat;refine oi.filter ?_ _;have hge:∀j (hj:j<l.length),eY l x<=j->fR x l[j]=true:=λj hj Qu=>by
    have hp:eY l x<l.length:=by omega
    have h1:=abj hp;have h2:fR x l[eY l x]=true:=by
     cases h3:fR x l[eY l x] with
     |true=>rfl
     |false=>
      exfalso
      apply hat;unfold kD;rw[dh hp];exact(Mm _ _).2 ⟨h1,h3⟩
    rcases Nat.eq_or_lt_of_le Qu with e|e
    .subst e;exact h2
    .exact Ik h2 ((List.pairwise_iff_getElem.1 h) _ j hp hj e)
   refine List.pairwise_append.2 ?_;refine⟨h.sublist (List.take_sublist _ _),List.pairwise_cons.2 ⟨λy hy=>?_,h.sublist (List.drop_sublist _ _)⟩,λy hy z hz=>?_⟩
   .obtain⟨j,hj,rfl⟩:=List.getElem_of_mem hy;rw[List.length_drop] at hj;rw[List.getElem_drop];exact hge _ (by omega) (by omega)
   .obtain⟨i,hi,rfl⟩:=List.getElem_of_mem hy;rw[kT] at hi;rw[List.getElem_take];have hl:=apR (x:=x) (show i<l.length by omega) (by omega);rcases List.mem_cons.1 hz with rfl|hz
    .exact hl
    .obtain⟨j,hj,rfl⟩:=List.getElem_of_mem hz;rw[List.length_drop] at hj;rw[List.getElem_drop];exact Ik hl (hge _ (by omega) (by omega))
theorem Xj:∀(b:List aC){l:List aC},oi l->oi (b.foldl dE l)
 | [],l,h=>h
 |x::b,l,h=>Xj b (abk h x)
theorem Qv{l:List aC} :∀k,k<=l.length->pL l k=true->oi (l.take k)
 |0,_,_=>by rw[List.take_zero];exact List.Pairwise.nil
 |k+1,hk,h=>by
  have h':pL l k=true/\(okB (l.getD k qq)&&((k==0||fR (l.getD (k-1) qq) (l.getD k qq)) && !mB (l.take k) (l.getD k qq)))=true:=by
   unfold pL at h|-;rw[List.range_succ,List.all_append] at h;simpa using h
  have ih:=Qv k (by omega) h'.1;have bS:k<l.length:=by omega
  have e:l.take (k+1)=l.take k++[l[k]]:=by rw[List.take_add_one,dh bS];rfl
  rw[e];refine List.pairwise_append.2 ?_;refine⟨ih,List.pairwise_singleton _ _,λy hy z hz=>?_⟩;rw[fi] at hz;subst hz;have ug:0<k:=by
   rcases Nat.eq_zero_or_pos k with h0|h0
   .subst h0;simp at hy
   .exact h0
  have hl:fR l[k-1] l[k]=true:=by
   have h2:=h'.2;simp only[ij,Bool.or_eq_true,beq_iff_eq] at h2;have h3:=h2.2.1.resolve_left (by omega)
   rwa[oc,oc,dh bS,dh (show k-1<l.length by omega)] at h3
  obtain⟨i,hi,rfl⟩:=List.getElem_of_mem hy;rw[kT] at hi;rw[List.getElem_take];rcases Nat.eq_or_lt_of_le (show i<=k-1 by omega) with e1|e1
  .subst e1;exact hl
  .have h5:=(List.pairwise_iff_getElem.1 ih) i (k-1) (by simp;omega) (by simp;omega) e1;rw[List.getElem_take,List.getElem_take] at h5;exact Ik h5 hl
theorem abl{l:List aC}(h:AP l=true):oi l:=by
 have:=Qv l.length (aZ _) h
 rwa[List.take_length] at this
end
section
open Go.RowKit
abbrev dM:=Int×Int
def AS(f:dM):List Value:= [.int .i64 f.1,.int .i64 f.2]
def dR(l:List dM):List Value:=l.flatMap AS
theorem Mq(f:dM):(AS f).length=2:=rfl
theorem AU(l:List dM):(dR l).length=l.length*2:=Mc AS Mq l
theorem Qy(a b:List dM):dR (a++b)=dR a++dR b:=by simp[dR]
theorem Im(l:List dM):∀u∈dR l,u.oneCell'=true:=by
 intro u hu;simp only[dR,List.mem_flatMap] at hu;obtain⟨i,_,h⟩:=hu;simp only[AS,List.mem_cons,List.not_mem_nil,or_false] at h;rcases h with rfl|rfl <;>rfl
theorem Xq(l:List dM)(k:Nat):(dR l).take (k*2)=dR (l.take k):=by
 induction l generalizing k with
 |nil=>simp[dR]
 |cons x l ih=>
  cases k with
  |zero=>simp[dR]
  |succ k=>
   have:=ih k;simp only[dR,List.flatMap_cons,List.take_succ_cons] at this|-;rw[<- this,List.take_append,lV (by simp[AS];omega),Mq,show(k+1)*2-2=k*2 by omega]
theorem abu(l:List dM)(k:Nat):(dR l).drop (k*2)=dR (l.drop k):=by
 induction l generalizing k with
 |nil=>simp[dR]
 |cons x l ih=>
  cases k with
  |zero=>simp[dR]
  |succ k=>
   have:=ih k;simp only[dR,List.flatMap_cons,List.drop_succ_cons] at this|-;rw[<- this,List.drop_append,List.drop_of_length_le (by simp[AS];omega),Mq,show(k+1)*2-2=k*2 by omega,gY]
theorem Rd.ly{w:World}{B n:Nat}{A:Option Addr}{l:List dM}(h:Rd w B 2 A n (dR l)):n=l.length:=by have:=h.1;rw[AU] at this;omega
theorem Rd.Qz{w:World}{B n:Nat}{A:Option Addr}{l:List dM}(h:Rd w B 2 A n (dR l)){k:Nat}(hk:k<n):
 ∃b o f,A=some ⟨b,o,none⟩/\b<B/\l[k]?=some f/\w.cell? ⟨b,o+k*2,none⟩=some (.int .i64 f.1)/\w.cell? ⟨b,o+k*2+1,none⟩=some (.int .i64 f.2):=by
 have hl:=h.ly;obtain⟨b,o,e,hb,hc⟩:=h.2 (by omega);have bS:k<l.length:=by omega
 have got:∀j u,j<2->(AS l[k])[j]?=some u->w.cell? ⟨b,o+k*2+j,none⟩=some u:=λj u hj hu=>by
  rw[Nat.add_assoc];exact hc _ _ ((Qq AS Mq l bS hj).trans hu)
 exact⟨b,o,l[k],e,hb,dh bS,got 0 _ (by omega) rfl,got 1 _ (by omega) rfl⟩
theorem Rd.abv{w:World}{B n:Nat}{A:Option Addr}{l:List dM}(h:Rd w B 2 A n (dR l)){k:Nat}(hk:k<=n):Rd w B 2 A k (dR (l.take k)):=by
 have:=h.Lh hk
 rwa[Xq] at this
def nP{α:Type}(p:α->Bool)(l:List α):Int:=if l.findIdx p<l.length then(l.findIdx p:Int) else -1
theorem apu{α:Type}{p:α->Bool}{l:List α}{k:Nat}(hk:k<l.length)(h1:∀j (hj:j<k),p (l[j]'(by omega))=false)(h2:p l[k]=true):nP p l=(k:Int):=by
 have:l.findIdx p=k:=by
  rw[List.findIdx_eq hk];exact⟨h2,λj hj=>h1 j hj⟩
 unfold nP;rw[this,if_pos hk]
theorem E9{α:Type}{p:α->Bool}{l:List α}(h:∀j (hj:j<l.length),p l[j]=false):nP p l= -1:=by
 unfold nP;rw[if_neg];intro hlt;have:=List.findIdx_getElem (w:=hlt);rw[h] at this;cases this
theorem Io{α:Type}(p:α->Bool)(l:List α):decide (0<=nP p l)=l.any p:=by
 unfold nP;by_cases h:l.findIdx p<l.length
 .rw[if_pos h];have:=List.findIdx_getElem (w:=h);have h2:l.any p=true:=by rw[List.any_eq_true];exact⟨_,List.getElem_mem h,this⟩
  rw[h2];simp
 .rw[if_neg h];have h2:l.any p=false:=by
   rw[List.any_eq_false];intro x hx hp;exact h (List.findIdx_lt_length_of_exists ⟨x,hx,hp⟩)
  rw[h2];rfl
def kh(n:Int):Bool:=decide (1<=n/\n<=1073741824)
def nQ(f:dM):Bool:=kh f.2&&decide (0<=f.1/\f.1<=3)
def nR(n:Nat):Bool:=decide (n<=281474976710656)
def zn(l:List Nat):List Value:=l.map λ(n:Nat)=> .int .u64 n
theorem abw(l:List Nat):(zn l).length=l.length:=by simp[zn]
theorem aqg{a b:Bool}(h:a=b):Ending.returned (.bool a)= .returned (.bool b):=by rw[h]
theorem QA(n:Int)(w:World):Calls prog 272 #[.int .i64 n] w λe w'=>e= .returned (.bool (kh n))/\aoV w w':=by
 have hs:kh n=decide (1<=n/\n<=1073741824):=rfl;have dg:=aoU hs;clear hs;go_enter func272,ntmps272
 go_wp2
 all_goals
  go_ret;refine⟨aqg ?_,aoV.refl w⟩;rw[dg.out,Bool.eq_iff_iff];clear dg;first|omega|(simp at *;done)|(simp at *;omega)
theorem Xr(x y:Int)(w:World):Calls prog 274 #[.agg #[.int .i64 x,.int .i64 y]] w λe w'=>e= .returned (.bool (nQ (x,y)))/\aoV w w':=by
 have hs:nQ (x,y)=(kh y&&decide (0<=x/\x<=3)):=rfl;have dg:=aoU hs;clear hs;have h0:aoV w (w.alloc (.cells #[.int .i64 x,.int .i64 y] 268)):=(aoV.refl w).alloc _;go_enter func274,ntmps274
 go_wp2_with fail;have hc0:∀W,aoV (w.alloc (.cells #[.int .i64 x,.int .i64 y] 268)) W->W.cell? ⟨w.heap.size,0,none⟩=some (.int .i64 x):=λW h=>(h.cell (by simp)).trans (by simp)
 generalize w.alloc (.cells #[.int .i64 x,.int .i64 y] 268)=w1 at *;refine(QA y w1).mono ?_;rintro e w2⟨rfl,hu⟩;have hc:=hc0 w2 hu;generalize kh y=b at *;cases b
 .go_wp2_with fail;go_ret;rw[dg.out];exact⟨rfl,h0.trans hu⟩
 .by_cases k1:0<=x
  .by_cases k2:x<=3
   .go_wp2_with fail;go_ret;refine⟨aqg ?_,h0.trans hu⟩;rw[dg.out,Bool.eq_iff_iff];first|(simp;done)|(simp;omega)
   .go_wp2_with fail;go_ret;refine⟨aqg ?_,h0.trans hu⟩;rw[dg.out,Bool.eq_iff_iff];first|(simp;done)|(simp;omega)
  .go_wp2_with fail;go_ret;refine⟨aqg ?_,h0.trans hu⟩;rw[dg.out,Bool.eq_iff_iff];first|(simp;done)|(simp;omega)
theorem abx(n:Nat)(w:World):Calls prog 316 #[.int .u64 n] w λe w'=>e= .returned (.bool (!nR n))/\aoV w w':=by
 have hs:nR n=decide (n<=281474976710656):=rfl;have dg:=aoU hs;clear hs;go_enter func316,ntmps316
 go_wp2
 all_goals
  go_ret;refine⟨aqg ?_,aoV.refl w⟩;rw[dg.out,Bool.eq_iff_iff];clear dg;first|omega|(simp at *;done)|(simp at *;omega)
theorem aby(A:Option Addr)(n c:Nat)(l:List Nat)(w:World)(hr:Rd w w.heap.size 1 A n (zn l))(hn:n<=9223372036854775807):
 Calls prog 352 #[.slice A n c,.func (.func 316) #[] #[]] w λe w'=>e= .returned (.int .i64 (nP (λn=> !nR n) l))/\aoV w w':=by
 have bU:=aoU (show n=l.length by have:=hr.1;rw[abw] at this;omega);go_enter func352,ntmps352
 go_wp2_with fail;go_loopw[8] (λi wr=>∃k:Nat,i= .int .i64 k/\k<=n/\Hid (∀j (hj:j<k) (hl:j<l.length),nR l[j]=true)/\aoV w wr) (λi _=>n-(intOf i).toNat)
 case atStart=>exact⟨0,rfl,by omega,λj hj=>absurd hj (Nat.not_lt_zero _),aoV.refl _⟩
 case round=>
  obtain⟨k,rfl,hk,hall,hu⟩:=hrel;by_cases hlt:k<n
  .have bS:k<l.length:=by have:=bU.out;omega
   obtain⟨b,o,rfl,hb,hc⟩:=hr.2 (by omega);have pO:wr.cell? ⟨b,o+k,none⟩=some (.int .u64 (l[k]:Int)):=(hu.cell (p:=⟨b,o+k,none⟩) hb).trans (hc k _ (by simp[zn,bS]));obtain⟨x,hx⟩:=bB (l[k])
   rw[<- hx] at pO;have ew:=aoU hx;clear hx hc;go_wp2_with fail;refine(abx x wr).mono ?_;rintro e w2⟨rfl,aq⟩;obtain⟨q,hq⟩:=bB (nR x)
   rw[<- hq];have ji:=aoU hq;clear pO hq;cases q
   .go_wp2_with fail;go_ret;refine⟨?_,hu.trans aq⟩;rw[apu (k:=k) bS (λj hj=>by rw[hall.out j hj (by omega)];rfl) (by rw[<- ew.out,<- ji.out];rfl)];rfl
   .go_wp2_with fail;go_roundw
    case rel=>
     refine⟨k+1,by go_num,by omega,?_,hu.trans aq⟩;intro j hj hl;by_cases hjk:j=k
     .subst hjk;rw[<- ew.out,<- ji.out]
     .exact hall.out j (by omega) hl
    case measure=>simp[intOf];omega
  .go_wp2_with fail;go_ret;refine⟨?_,hu⟩;rw[E9 (λj hj=>by rw[hall.out j (by have:=bU.out;omega) hj];rfl)];rfl
theorem Xs(A:Option Addr)(n c:Nat)(l:List Nat)(w:World)(hr:Rd w w.heap.size 1 A n (zn l))(hn:n<=9223372036854775807):
 Calls prog 273 #[.slice A n c] w λe w'=>e= .returned (.bool (l.all nR))/\aoV w w':=by
 have qr:=Io (λn=> !nR n) l;have hall:(!(l.any λn=> !nR n))=l.all nR:=by rw[List.not_any_eq_all_not];congr 1;funext x;simp
 have iw:=aoU qr;have gD:=aoU hall;clear qr hall;go_enter func273,ntmps273
 go_wp2_with fail;go_enter func315,ntmps315
 go_wp2_with fail;refine(aby A n c l w hr hn).mono ?_;rintro e w1⟨rfl,hu⟩;generalize nP (λn=> !nR n) l=z at *;go_wp2_with fail;go_ret;refine⟨aqg ?_,hu⟩;show(!decide (0<=z))=_;rw[iw.out];exact gD.out
theorem Xt(g:Nat)(lb:Array Value)(p:dM->Bool)(A:Option Addr)(n c:Nat)(l:List dM)(w:World)(hr:Rd w w.heap.size 2 A n (dR l))(hn:n<=9223372036854775807)(eg:∀args w,(callFunc g args).run prog w= .ok (.enter g args) w)(hp:∀(W:World) (x:dM),aoV w W->Calls prog g (#[.agg #[.int .i64 x.1,.int .i64 x.2]]++lb) W λe w'=>e= .returned (.bool (p x))/\aoV W w'):
 Calls prog 252 #[.slice A n c,.func (.func g) #[] lb] w λe w'=>e= .returned (.int .i64 (nP p l))/\aoV w w':=by
 have bU:=aoU hr.ly;have ib:=aoU hp;clear hp;go_enter func252,ntmps252
 go_wp2_with fail;go_loopw[8] (λi wr=>∃k:Nat,i= .int .i64 k/\k<=n/\Hid (∀j (hj:j<k) (hl:j<l.length),p l[j]=false)/\aoV w wr) (λi _=>n-(intOf i).toNat)
 case atStart=>exact⟨0,rfl,by omega,λj hj=>absurd hj (Nat.not_lt_zero _),aoV.refl _⟩
 case round=>
  obtain⟨k,rfl,hk,hall,hu⟩:=hrel;by_cases hlt:k<n
  .have bS:k<l.length:=by have:=bU.out;omega
   obtain⟨b,o,x,rfl,hb,hx,c0,c1⟩:=(hr.stay (aZ _) hu).Qz hlt;rw[dh bS] at hx;injection hx with hx;have ew:=aoU hx;clear hx;have gQ:=ib.out wr x hu;go_wp2_with fail;refine gQ.mono ?_;rintro e w2⟨rfl,aq⟩;obtain⟨q,hq⟩:=bB (p x)
   rw[<- hq];have ji:=aoU hq;clear hq c0 c1 gQ;cases q
   .go_wp2_with fail;go_roundw
    case rel=>
     refine⟨k+1,by go_num,by omega,?_,hu.trans aq⟩;intro j hj hl;by_cases hjk:j=k
     .subst hjk;rw[ew.out,<- ji.out]
     .exact hall.out j (by omega) hl
    case measure=>simp[intOf];omega
   .go_wp2_with fail;go_ret;refine⟨?_,hu.trans aq⟩;rw[apu (k:=k) bS (λj hj=>hall.out j hj (by omega)) (by rw[ew.out,<- ji.out])];rfl
  .go_wp2_with fail;go_ret;refine⟨?_,hu⟩;rw[E9 (λj hj=>hall.out j (by have:=bU.out;omega) hj)];rfl
theorem Xu(g:Nat)(lb:Array Value)(p:dM->Bool)(A:Option Addr)(n c:Nat)(l:List dM)(w:World)(hr:Rd w w.heap.size 2 A n (dR l))(hn:n<=9223372036854775807)(eg:∀args w,(callFunc g args).run prog w= .ok (.enter g args) w)(hp:∀(W:World) (x:dM),aoV w W->Calls prog g (#[.agg #[.int .i64 x.1,.int .i64 x.2]]++lb) W λe w'=>e= .returned (.bool (p x))/\aoV W w'):
 Calls prog 275 #[.slice A n c,.func (.func g) #[] lb] w λe w'=>e= .returned (.bool (l.any p))/\aoV w w':=by
 have iw:=aoU (Io p l);have bh:=aoU (Xt g lb p A n c l w hr hn eg hp);clear hp;go_enter func275,ntmps275
 go_wp2_with fail;refine bh.out.mono ?_;rintro e w1⟨rfl,hu⟩;generalize nP p l=z at *;go_wp2_with fail;go_ret;refine⟨aqg ?_,hu⟩;rw[<- iw.out]
theorem abz(aE:Nat)(x y:Int)(z:Int)(w:World)(hg:aE<w.heap.size)(hc:w.cell? ⟨aE,1,none⟩=some (.int .i64 z)):
 Calls prog 276 #[.agg #[.int .i64 x,.int .i64 y],.pointer (some ⟨aE,0,none⟩)] w λe w'=>e= .returned (.bool (decide (y=z)))/\aoV w w':=by
 have h0:aoV w (w.alloc (.cells #[.int .i64 x,.int .i64 y] 268)):=(aoV.refl w).alloc _;have kJ:=(h0.cell (p:=⟨aE,1,none⟩) hg).trans hc;have hc1:(w.alloc (.cells #[.int .i64 x,.int .i64 y] 268)).cell? ⟨w.heap.size,1,none⟩=some (.int .i64 y):=by simp
 go_enter func276,ntmps276
 go_wp2_with fail;go_ret;exact⟨rfl,h0⟩
def tA(l:List dM)(k:Nat):Bool:=(List.range k).all λi=>nQ (l.getD i (0,0)) && !((l.take i).any λg=>decide (g.2=(l.getD i (0,0)).2))
theorem Mr(l:List dM)(k:Nat):tA l (k+1)=(tA l k&&(nQ (l.getD k (0,0)) && !((l.take k).any λg=>decide (g.2=(l.getD k (0,0)).2)))):=by
 unfold tA;rw[List.range_succ,List.all_append];simp
theorem Xv{l:List dM}{k n:Nat}(h:tA l k=false)(hk:k<=n):tA l n=false:=by
 induction n with
 |zero=>
  have:k=0:=by omega
  subst this;exact h
 |succ n ih=>
  by_cases hkn:k=n+1
  .subst hkn;exact h
  .rw[Mr,ih (by omega)];rfl
def wU(am:Int)(l:List dM)(f ce at_ le:Nat):Bool:=kh am&&decide (l.length<=40)&&[f,ce,at_,le].all nR&&tA l l.length
theorem Xw(am:Int)(A:Option Addr)(n c:Nat)(l:List dM)(f ce at_ le:Nat)(w:World)(hr:Rd w w.heap.size 2 A n (dR l))(hnc:n<=c)(hn:n<=9223372036854775807):
 Calls prog 221 #[.agg #[.int .i64 am,.slice A n c,.int .u64 f,.int .u64 ce,.int .u64 at_,.int .u64 le]] w λe w'=>e= .returned (.bool (wU am l f ce at_ le))/\aoV w w':=by
 have hv:wU am l f ce at_ le=(kh am&&decide (l.length<=40)&&[f,ce,at_,le].all nR&&tA l l.length):=rfl;have cd:=aoU hv;have bU:=aoU hr.ly;clear hv;have h0:aoV w (w.alloc (.cells #[.int .i64 am,.slice A n c,.int .u64 f,.int .u64 ce,.int .u64 at_,.int .u64 le] 202)):=(aoV.refl w).alloc _;have hc0:∀W,aoV (w.alloc (.cells #[.int .i64 am,.slice A n c,.int .u64 f,.int .u64 ce,.int .u64 at_,.int .u64 le] 202)) W->
  W.cell? ⟨w.heap.size,1,none⟩=some (.slice A n c)/\W.cell? ⟨w.heap.size,2,none⟩=some (.int .u64 f)/\W.cell? ⟨w.heap.size,3,none⟩=some (.int .u64 ce)/\W.cell? ⟨w.heap.size,4,none⟩=some (.int .u64 at_)/\W.cell? ⟨w.heap.size,5,none⟩=some (.int .u64 le):=λW h=>
  ⟨(h.cell (by simp)).trans (by simp),(h.cell (by simp)).trans (by simp),(h.cell (by simp)).trans (by simp),(h.cell (by simp)).trans (by simp),(h.cell (by simp)).trans (by simp)⟩
 go_enter func221,ntmps221
 go_wp2_with fail;generalize w.alloc (.cells #[.int .i64 am,.slice A n c,.int .u64 f,.int .u64 ce,.int .u64 at_,.int .u64 le] 202)=w1 at *;generalize w.heap.size=yb at hc0|-;refine(QA am w1).mono ?_;rintro e w2⟨rfl,aq⟩;obtain⟨q1,cP,dQ,eX,fM⟩:=hc0 w2 aq;obtain⟨b0,hb0⟩:=bB (kh am)
 rw[<- hb0] at cd|-;clear hb0;cases b0
 .clear q1 cP dQ eX fM hc0;go_wp2_with fail;go_ret;refine⟨aqg ?_,h0.trans aq⟩;rw[cd.out];rfl
 .by_cases amG:40<n
  .clear cP dQ eX fM hc0;have d40:(40:Int)<(n:Int):=by omega
   go_wp2_with fail;go_ret;refine⟨aqg ?_,h0.trans aq⟩;rw[cd.out,show decide (l.length<=40)=false by simp;have:=bU.out;omega];rfl
  .have d40:¬(40:Int)<(n:Int):=by omega
   have hm:Rd (w2.alloc (.cells #[.int .u64 f,.int .u64 ce,.int .u64 at_,.int .u64 le] 26)) (w2.alloc (.cells #[.int .u64 f,.int .u64 ce,.int .u64 at_,.int .u64 le] 26)).heap.size 1 (some ⟨w2.heap.size,0,none⟩) 4 (zn [f,ce,at_,le]):=
    Rd.made w2 #[.int .u64 f,.int .u64 ce,.int .u64 at_,.int .u64 le] 26 rfl
   have bV:aoV w2 (w2.alloc (.cells #[.int .u64 f,.int .u64 ce,.int .u64 at_,.int .u64 le] 26)):=(aoV.refl w2).alloc _;go_wp2_with fail;generalize w2.alloc (.cells #[.int .u64 f,.int .u64 ce,.int .u64 at_,.int .u64 le] 26)=w3 at *;refine(Xs _ 4 4 [f,ce,at_,le] w3 hm (by omega)).mono ?_;rintro e w4⟨rfl,eO⟩;have QB:=bV.trans eO;generalize [f,ce,at_,le].all nR=bm at *;clear cP dQ eX fM hm bV eO;cases bm
   .clear hc0 q1;go_wp2_with fail;go_ret;refine⟨aqg ?_,h0.trans (aq.trans QB)⟩;rw[cd.out,show decide (l.length<=40)=true by simp;have:=bU.out;omega];rfl
   .have Xx:decide (l.length<=40)=true:=by simp;have:=bU.out;omega
    rw[Xx] at cd;clear Xx;have hc1:∀W,aoV w4 W->W.cell? ⟨yb,1,none⟩=some (.slice A n c):=λW h=>(hc0 W ((aq.trans QB).trans h)).1
    have mS:=h0.trans (aq.trans QB);have hrd:=hr.up mS;clear hc0 q1 h0 hr;have q1:=hc1 w4 (aoV.refl _);go_wp2_with fail;clear q1;go_loopw[31] (λi wr=>∃k:Nat,i= .int .i64 k/\k<=n/\Hid (tA l k=true)/\aoV w4 wr) (λi _=>n-(intOf i).toNat)
    case atStart=>exact⟨0,rfl,by omega,rfl,aoV.refl _⟩
    case round=>
     obtain⟨k,rfl,hk,hall,hu⟩:=hrel;by_cases hlt:k<n
     .have bS:k<l.length:=by have:=bU.out;omega
      obtain⟨b,o,x,rfl,hb,hx,c0,c1⟩:=(hrd.up hu).Qz hlt;have Xy:l.getD k (0,0)=x:=by rw[oc,hx];rfl
      have ew:=aoU Xy;clear hx Xy;obtain⟨x1,x2⟩:=x;simp only[] at c0 c1;have aX:aoV wr (wr.alloc (.cells #[.int .i64 x1,.int .i64 x2] 268)):=(aoV.refl wr).alloc _;have hcb:(wr.alloc (.cells #[.int .i64 x1,.int .i64 x2] 268)).cell? ⟨wr.heap.size,1,none⟩=some (.int .i64 x2):=by simp
      have hlb:wr.heap.size<(wr.alloc (.cells #[.int .i64 x1,.int .i64 x2] 268)).heap.size:=by simp
      have q1:=hc1 wr hu;go_wp2_with fail;clear c0 c1 q1;generalize wr.alloc (.cells #[.int .i64 x1,.int .i64 x2] 268)=ai at *;generalize wr.heap.size=gf at *;refine(Xr x1 x2 ai).mono ?_;rintro e cH⟨rfl,eZ⟩;have Ip:=(hu.trans aX).trans eZ;obtain⟨E4,Am⟩:=bB (nQ (x1,x2))
      rw[<- Am];have dz:=aoU Am;clear Am;cases E4
      .clear hc1;go_wp2_with fail;go_ret;refine⟨aqg ?_,mS.trans Ip⟩;have h1:tA l (k+1)=false:=by rw[Mr,ew.out,<- dz.out,hall.out];rfl
       rw[cd.out,Xv h1 (by omega)];rfl
      .have q1:=hc1 cH Ip;have iS:(0:Int)<=(k:Int):=by omega
       have z2:(k:Int)<=(c:Int):=by omega
       have hto:=((hrd.up Ip).abv (k:=k) (by omega))
       have gQ:=Xu 276 #[.pointer (some ⟨gf,0,none⟩)] (λy=>decide (y.2=x2)) (some ⟨b,o,none⟩) k c (l.take k) cH hto (by omega) (λ_ _=>rfl)
        (λW y hW=>abz gf y.1 y.2 x2 W (by have:=eZ.size;have:=hW.size;omega) (((eZ.trans hW).cell (p:=⟨gf,1,none⟩) hlb).trans hcb))
       go_wp2_with fail;clear q1;refine gQ.mono ?_;rintro e w7⟨rfl,uo⟩;have Xz:tA l (k+1)= !((l.take k).any λg=>decide (g.2=x2)):=by
        rw[Mr,ew.out,<- dz.out,hall.out];rfl
       have dg:=aoU Xz;clear Xz gQ hto;generalize (l.take k).any (λg=>decide (g.2=x2))=ba at *;cases ba
       .go_wp2_with fail;go_roundw
        case rel=>exact⟨k+1,by go_num,by omega,dg,Ip.trans uo⟩
        case measure=>simp[intOf];omega
       .clear hc1;go_wp2_with fail;go_ret;refine⟨aqg ?_,mS.trans (Ip.trans uo)⟩;rw[cd.out,Xv dg.out (by omega)];rfl
     .go_wp2_with fail;go_ret;have hkn:k=l.length:=by have:=bU.out;omega
      rw[hkn] at hall;refine⟨aqg ?_,mS.trans hu⟩;rw[cd.out,hall.out];rfl
abbrev aD:=Nat->Prop
abbrev fy:=aD->aD->World->Prop
structure aO(K X:aD)(w:World)(K' X':aD)(w':World):Prop where
 kept:V.af X w w'
 aJ:∀k,X' k->X k\/w.heap.size<=k
 grow:∀k,K k->K' k
 shut:∀k,K' k->K k\/w.heap.size<=k
structure bH(B:Nat)(P:fy):Prop where
 keep:∀{K X Y:aD}{w w':World},P K X w->V.af Y w w'->(∀k,X k->¬Y k)->(∀k,K k->¬Y k)->P K X w'
 more:∀{K K' X:aD}{w:World},P K X w->(∀k,K k->K' k)->P K' X w
 lt:∀{K X:aD}{w:World}{k:Nat},P K X w->X k->B<=k/\k<w.heap.size
structure cy(K X:aD)(w:World):Prop where
 ap:∀k,X k->¬K k
 lt:∀k,K k->k<w.heap.size
section
variable{B:Nat}{P Q R P' Q':fy}{K K' zu X X' tD Y Z:aD}{w w' w'' w0:World}
theorem eQ(h:V.af X w w')(hxy:∀k,X k->Y k):V.af Y w w':=⟨h.os,h.tape,h.output,h.size,λk hk hy=>h.block k hk (λhx=>hy (hxy k hx))⟩
theorem ci(h:V.af X w w')(k:V.af X w' w''):V.af X w w'':=
 ⟨k.os.trans h.os,k.tape.trans h.tape,k.output.trans h.output,bQ h.size k.size,λi hi hx=>(k.block i (cg hi h.size) hx).trans (h.block i hi hx)⟩
theorem Ye(hu:aoV w w'):V.af (λk=>¬k<w.heap.size) w w':=⟨hu.os,hu.tape,hu.output,hu.size,λk hk _=>hu.block k hk⟩
theorem bH.up(hP:bH B P)(h:P K X w)(hA:cy K X w)(hu:aoV w w'):P K X w':=
 hP.keep h (Ye hu) (λk hk hn=>hn (hP.lt h hk).2) (λk hk hn=>hn (hA.lt k hk))
theorem cy.up(hA:cy K X w)(hu:aoV w w'):cy K X w':=⟨hA.ap,λk hk=>cg (hA.lt k hk) hu.size⟩
theorem aO.refl(K X:aD)(w:World):aO K X w K X w:=⟨V.af.refl _ _,λk hk=> .inl hk,λ_ h=>h,λ_ h=> .inl h⟩
theorem aO.up(hu:aoV w w'):aO K X w K X w':=⟨V.af.co hu,λk hk=> .inl hk,λ_ h=>h,λ_ h=> .inl h⟩
theorem aO.trans(x:aO K X w K' X' w')(y:aO K' X' w' zu tD w''):aO K X w zu tD w'':=by
 refine⟨⟨y.kept.os.trans x.kept.os,y.kept.tape.trans x.kept.tape,y.kept.output.trans x.kept.output,bQ x.kept.size y.kept.size,λi hi hx=>?_⟩,λk hk=>?_,λk hk=>y.grow k (x.grow k hk),λk hk=>?_⟩
 .refine(y.kept.block i (cg hi x.kept.size) (λhf=>?_)).trans (x.kept.block i hi hx);rcases x.aJ i hf with h1|h1
  .exact hx h1
  .omega
 .rcases y.aJ k hk with h1|h1
  .exact x.aJ k h1
  .exact .inr (bQ x.kept.size h1)
 .rcases y.shut k hk with h1|h1
  .exact x.shut k h1
  .exact .inr (bQ x.kept.size h1)
theorem aO.below(x:aO K X w K' X' w')(hX:∀k,X k->w0.heap.size<=k)(hu:aoV w0 w):aoV w0 w':=
 ⟨x.kept.os.trans hu.os,x.kept.tape.trans hu.tape,x.kept.output.trans hu.output,bQ hu.size x.kept.size,λk hk=>(x.kept.block k (cg hk hu.size) (λhf=>by have:=hX k hf;omega)).trans (hu.block k hk)⟩
theorem aO.made(hu:aoV w w')(hX:∀k,X' k->w.heap.size<=k):aO K (λ_=>False) w K X' w':=⟨V.af.co hu,λk hk=> .inr (hX k hk),λ_ h=>h,λ_ h=> .inl h⟩
theorem aO.frame(x:aO K X w K' X' w'):aO K (λk=>X k\/Z k) w K' (λk=>X' k\/Z k) w':=
 ⟨eQ x.kept (λk hk=> .inl hk),λk hk=>hk.elim (λh=>(x.aJ k h).imp .inl id) (λh=> .inl (.inr h)),x.grow,x.shut⟩
theorem aO.weak(x:aO K X w K' X' w')(h:∀k,X k->Y k):aO K Y w K' X' w':=⟨eQ x.kept h,λk hk=>(x.aJ k hk).imp (h k) id,x.grow,x.shut⟩
theorem aO.less(x:aO K X w K' X' w')(h:∀k,Y k->X' k):aO K X w K' Y w':=⟨x.kept,λk hk=>x.aJ k (h k hk),x.grow,x.shut⟩
theorem cy.sub(hA:cy K X w)(h:∀k,Y k->X k):cy K Y w:=⟨λk hk=>hA.ap k (h k hk),hA.lt⟩
theorem cy.rest(hA:cy K Z w)(hZ:∀k,Z k->k<w.heap.size)(x:aO K X w K' X' w')(Fh:cy K' X' w'):cy K' (λk=>X' k\/Z k) w':=
 ⟨λk hk hK=>hk.elim (λh=>Fh.ap k h hK) (λh=>(x.shut k hK).elim (λh2=>hA.ap k h h2) (λh2=>by have:=hZ k h;omega)),Fh.lt⟩
def Sep(P Q:fy):fy:=λK X w=>∃aA cD:aD,P K aA w/\Q K cD w/\(∀k,aA k->¬cD k)/\∀k,X k↔(aA k\/cD k)
theorem bH.sep(hP:bH B P)(hQ:bH B Q):bH B (Sep P Q) where
 keep:=λ{K X Y w w'} ⟨aA,cD,h1,h2,hd,hx⟩ hK hn hk=>⟨aA,cD,hP.keep h1 hK (λk hk=>hn k ((hx k).2 (.inl hk))) hk,hQ.keep h2 hK (λk hk=>hn k ((hx k).2 (.inr hk))) hk,hd,hx⟩
 more:=λ{K K' X w} ⟨aA,cD,h1,h2,hd,hx⟩ hK=>⟨aA,cD,hP.more h1 hK,hQ.more h2 hK,hd,hx⟩
 lt:=λ{K X w k} ⟨aA,cD,h1,h2,hd,hx⟩ hk=>((hx k).1 hk).elim (λh=>hP.lt h1 h) (λh=>hQ.lt h2 h)
structure se(C:fy->fy)(K X aA Z:aD)(w:World):Prop where
 iff:∀k,X k↔(aA k\/Z k)
 ap:∀k,aA k->¬Z k
 lt:∀k,Z k->k<w.heap.size
 put:∀{P':fy}{K' cA:aD}{w':World},P' K' cA w'->aO K aA w K' cA w'->C P' K' (λk=>cA k\/Z k) w'
theorem se.Db{C:fy->fy}{aA cA:aD}(h:se C K X aA Z w)(s:aO K aA w K' cA w'):aO K X w K' (λk=>cA k\/Z k) w':=s.frame.weak (λk hk=>(h.iff k).2 hk)
theorem se.jA{C:fy->fy}{aA cA:aD}(h:se C K X aA Z w)(hA:cy K X w)(s:aO K aA w K' cA w')(Fh:cy K' cA w'):cy K' (λk=>cA k\/Z k) w':=
 cy.rest (hA.sub λk hk=>(h.iff k).2 (.inr hk)) h.lt s Fh
theorem se.sub{C:fy->fy}{aA:aD}(h:se C K X aA Z w)(hA:cy K X w):cy K aA w:=hA.sub λk hk=>(h.iff k).2 (.inl hk)
theorem se.trans{C D:fy->fy}{aA cD Ba:aD}(h:se C K X aA Z w)(g:se D K aA cD Ba w):se (λP=>C (D P)) K X cD (λk=>Ba k\/Z k) w where
 iff:=λk=>by rw[h.iff k,g.iff k,or_assoc]
 ap:=λk hk hz=>hz.elim (λhz=>g.ap k hk hz) (λhz=>h.ap k ((g.iff k).2 (.inl hk)) hz)
 lt:=λk hz=>hz.elim (λhz=>g.lt k hz) (λhz=>h.lt k hz)
 put:=λ{P' K' cA w'} hP s=>by
  have h2:=h.put (g.put hP s) (g.Db s);have e:(λk=>(cA k\/Ba k)\/Z k)=λk=>cA k\/(Ba k\/Z k):=by funext k;rw[or_assoc]
  rwa[e] at h2
theorem se.id:se (λP=>P) K X X (λ_=>False) w where
 iff:=λk=>by simp
 ap:=λk _ h=>h
 lt:=λk h=>h.elim
 put:=λ{P' K' cA w'} h _=>by
  have e:(λk=>cA k\/False)=cA:=by funext k;simp
  rw[e];exact h
theorem Yf(hQ:bH B Q)(h2:Q K Z w)(hA:cy K X w){aA:aD}(h1:∀k,aA k->X k)(hd:∀k,aA k->¬Z k)(s:aO K aA w K' X' w'):Q K' Z w':=
 hQ.more (hQ.keep h2 s.kept (λk hk hf=>hd k hf hk) (λk hk hf=>hA.ap k (h1 k hf) hk)) s.grow
theorem Sep.left(hP:bH B P)(hQ:bH B Q)(h:Sep P Q K X w)(hA:cy K X w):∃aA Z:aD,P K aA w/\Q K Z w/\se (λP'=>Sep P' Q) K X aA Z w:=by
 obtain⟨aA,cD,h1,h2,hd,hx⟩:=h;refine⟨aA,cD,h1,h2,hx,hd,λk hk=>(hQ.lt h2 hk).2,λ{P' K' cA w'} uu hs=>⟨cA,cD,uu,Yf hQ h2 hA (λk hk=>(hx k).2 (.inl hk)) hd hs,λk hk hk2=>?_,λk=>Iff.rfl⟩⟩;rcases hs.aJ k hk with h3|h3
 .exact hd k h3 hk2
 .have:=(hQ.lt h2 hk2).2;omega
theorem Sep.right(hP:bH B P)(hQ:bH B Q)(h:Sep P Q K X w)(hA:cy K X w):∃aA Z:aD,Q K aA w/\P K Z w/\se (λQ'=>Sep P Q') K X aA Z w:=by
 obtain⟨aA,cD,h1,h2,hd,hx⟩:=h;refine⟨cD,aA,h2,h1,λk=>(hx k).trans Or.comm,λk h9 h8=>hd k h8 h9,λk hk=>(hP.lt h1 hk).2,λ{Q' K' cA w'} uu hs=>⟨aA,cA,Yf hP h1 hA (λk hk=>(hx k).2 (.inr hk)) (λk h9 h8=>hd k h8 h9) hs,uu,λk hk hk2=>?_,λk=>Or.comm⟩⟩;rcases hs.aJ k hk2 with h3|h3
 .exact hd k hk h3
 .have:=(hP.lt h1 hk).2;omega
theorem Sep.more(hP:bH B P)(h1:P K X w)(hA:cy K X w)(h2:Q K Y w')(hu:aoV w w')(hY:∀k,Y k->w.heap.size<=k):Sep P Q K (λk=>X k\/Y k) w':=
 ⟨X,Y,hP.up h1 hA hu,h2,λk hk hk2=>by have h3:=(hP.lt h1 hk).2;have h4:=hY k hk2;omega,λk=>Iff.rfl⟩
def Yg:fy:=λ_ X _=>∀k,¬X k
theorem bH.emp:bH B Yg where
 keep:=λh _ _ _=>h
 more:=λh _=>h
 lt:=λ{K X w k} h hk=>absurd hk (h k)
def bF:List fy->fy
 | []=>Yg
 |P::r=>Sep P (bF r)
theorem bH.sf:∀{l:List fy},(∀P∈l,bH B P)->bH B (bF l)
 | [],_=>bH.emp
 |P::r,h=>bH.sep (h P gN) (bH.sf λQ hQ=>h Q (kS _ hQ))
theorem bF.at_:∀{l:List fy}{i:Nat}{X:aD},(∀P∈l,bH B P)->bF l K X w->cy K X w->l[i]?=some P->∃aA Z:aD,P K aA w/\se (λP'=>bF (l.set i P')) K X aA Z w
 | [],i,X,_,_,_,hi=>by simp at hi
 |Q::r,0,X,hl,h,hA,hi=>by
  have hPQ:P=Q:=by simpa using hi.symm
  subst hPQ;obtain⟨aA,Z,h1,h2,hput⟩:=Sep.left (hl P gN) (bH.sf λQ hQ=>hl Q (kS _ hQ)) h hA;exact⟨aA,Z,h1,hput⟩
 |Q::r,i+1,X,hl,h,hA,hi=>by
  have hi':r[i]?=some P:=by simpa using hi
  have hlr:∀P∈r,bH B P:=λQ hQ=>hl Q (kS _ hQ)
  obtain⟨aA,Z,h1,h2,hput⟩:=Sep.right (hl Q gN) (bH.sf hlr) h hA;obtain⟨lI,MG,h3,abZ⟩:=bF.at_ hlr h1 (hput.sub hA) hi';exact⟨lI,_,h3,hput.trans abZ⟩
theorem bF.more:∀{l:List fy}{X:aD},(∀P∈l,bH B P)->bF l K X w->cy K X w->P K Y w'->aoV w w'->(∀k,Y k->w.heap.size<=k)->bF (l++[P]) K (λk=>X k\/Y k) w'
 | [],X,_,h,_,hP,hu,hY=>⟨Y,λ_=>False,hP,λ_ h=>h,λ_ _ h=>h,λk=>by
  have h':∀k,¬X k:=h;simp[h' k]⟩
 |Q::r,X,hl,h,hA,hP,hu,hY=>by
  obtain⟨aA,cD,h1,h2,hd,hx⟩:=h;have hQ:=hl Q gN;have hlr:∀P∈r,bH B P:=λQ hQ=>hl Q (kS _ hQ)
  refine⟨aA,λk=>cD k\/Y k,hQ.up h1 (hA.sub λk hk=>(hx k).2 (.inl hk)) hu,bF.more hlr h2 (hA.sub λk hk=>(hx k).2 (.inr hk)) hP hu hY,λk hk hk2=>?_,λk=>by show(X k\/Y k)↔_;rw[hx k,or_assoc]⟩;rcases hk2 with hk2|hk2
  .exact hd k hk hk2
  .have h3:=(hQ.lt h1 hk).2;have h4:=hY k hk2;omega
theorem aH{w w':World}{g:Nat}{o:Obj}(hu:aoV w w')(h:w.heap[g]?=some o):w'.heap[g]?=some o:=(fP hu h)
def nj(B g:Nat)(t:TypeId)(cs:Array Value):fy:=λ_ X w=>w.heap[g]?=some (.cells cs t (0,0))/\B<=g/\∀k,X k↔k=g
theorem bH.blk{g:Nat}{t:TypeId}{cs:Array Value} :bH B (nj B g t cs) where
 keep:=λ{K X Y w w'} ⟨h,hb,hx⟩ hK hn _=>⟨(hK.block g (aB h) (hn g ((hx g).2 rfl))).trans h,hb,hx⟩
 more:=λh _=>h
 lt:=λ{K X w k} ⟨h,hb,hx⟩ hk=>by
  rw[(hx k).1 hk];exact⟨hb,(aB h)⟩
def bg(A:Option Addr)(k:Nat):Prop:=∃a,A=some a/\a.block=k
def Row(B:Nat)(t:TypeId)(sz:Nat)(A:Option Addr)(n c:Nat)(xs:List Value):fy:=λ_ X w=>w.ownsRow B t sz (.slice A n c) n xs/\∀k,X k↔bg A k
theorem iC{w w':World}{base n c:Nat}{e:TypeId}{sz:Nat}{A:Option Addr}{xs:List Value}{X:aD}(h:w.ownsRow base e sz (.slice A n c) n xs)(hK:V.af X w w')(hx:∀k,bg A k->¬X k):w'.ownsRow base e sz (.slice A n c) n xs:=by
 refine⟨h.1,?_⟩;rcases h.2 with h2|⟨g,cap,cur,hv,hg,hh,r⟩
 .exact .inl h2
 .refine .inr ⟨g,cap,cur,hv,hg,(hK.block g (aB hh) (hx g ?_)).trans hh,r⟩;injection hv with hA;exact⟨_,hA,rfl⟩
theorem bH.row{t:TypeId}{sz n c:Nat}{A:Option Addr}{xs:List Value} :bH B (Row B t sz A n c xs) where
 keep:=λ{K X Y w w'} ⟨h,hx⟩ hK hn _=>by
  refine⟨⟨h.1,?_⟩,hx⟩;rcases h.2 with h2|⟨g,cap,cur,hv,hg,hh,r⟩
  .exact .inl h2
  .refine .inr ⟨g,cap,cur,hv,hg,(hK.block g (aB hh) (hn g ((hx g).2 ?_))).trans hh,r⟩;injection hv with hv;exact⟨_,hv,rfl⟩
 more:=λh _=>h
 lt:=λ{K X w k} ⟨h,hx⟩ hk=>by
  obtain⟨a,rfl,rfl⟩:=(hx k).1 hk;rcases h.2 with⟨h2,_⟩|⟨g,cap,cur,hv,hg,hh,r⟩
  .cases h2
  .injection hv with hv;injection hv with hv;subst hv;exact⟨hg,(aB hh)⟩
structure jB(K:aD)(w:World)(sz:Nat)(A:Option Addr)(n:Nat)(xs:List Value):Prop where
 rd:Rd w w.heap.size sz A n xs
 k:0<n->∀a,A=some a->K a.block
theorem jB.keep{sz n:Nat}{A:Option Addr}{xs:List Value}(h:jB K w sz A n xs)(hK:V.af Y w w')(hn:∀k,K k->¬Y k):jB K w' sz A n xs:=by
 refine⟨⟨h.rd.1,λhn0=>?_⟩,h.k⟩;obtain⟨b,o,rfl,hb',hc⟩:=h.rd.2 hn0;exact⟨b,o,rfl,cg hb' hK.size,λj u hu=>(mv (a:=⟨b,o+j,none⟩) (hK.block b hb' (hn b (h.k hn0 _ rfl)))).trans (hc j u hu)⟩
theorem jB.more{sz n:Nat}{A:Option Addr}{xs:List Value}(h:jB K w sz A n xs)(hK:∀k,K k->K' k):jB K' w sz A n xs:=⟨h.rd,λhn a ha=>hK _ (h.k hn a ha)⟩
theorem jB.empty{sz:Nat}{A:Option Addr} :jB K w sz A 0 []:=⟨Rd.empty,λh=>absurd h (by omega)⟩
theorem jB.Db{sz n:Nat}{A:Option Addr}{xs:List Value}(h:jB K w sz A n xs)(hA:cy K X w)(s:aO K X w K' X' w'):jB K' w' sz A n xs:=(h.keep s.kept (λk hk hx=>hA.ap k hx hk)).more s.grow
theorem jB.up{sz n:Nat}{A:Option Addr}{xs:List Value}(h:jB K w sz A n xs)(hu:aoV w w'):jB K w' sz A n xs:=by
 refine⟨h.rd.up hu,h.k⟩
end
section
variable{P:Program}{ops:Array Oper}{rest:List Oper}{o:Oper}{a:Act}{w:World}{Q:Exit->Act->World->Prop}
abbrev gy(g:Nat)(w w':World):Prop:=V.af (λx=>x=g) w w'
theorem ab0(w:World)(g:Nat)(cs:Array Value):gy g w (w.setRow g cs):=
 ⟨rfl,rfl,rfl,by simp,λk _ hk=>setRow_other w g k cs hk⟩
theorem nW(hgd:o.guard=none)(ty:TypeId)(x y:Operand)(ho:o.op= .store ty x y){g:Nat}{cells:Array Value}(hx:a.eval x= .pointer (some ⟨g,0,none⟩))(hy:a.eval y= .agg cells){t:TypeId}{old:Array Value}(hg:w.heap[g]?=some (.cells old t (0,0)))(hi:(P.info? ty).map (·.size)=some cells.size)(hold:old.size=cells.size)(h1:cells.all (·.oneCell')=true)(h:∀w',w'.heap[g]?=some (.cells cells t (0,0))->gy g w w'->wpList P ops Q rest (a.put o.dst undef) w'):wpList P ops Q (o::rest) a w:=
 wpList_store_row hgd ty x y ho g cells hx hy t old hg hi hold h1 (h _ (setRow_heap w g old cells t _ hg) (ab0 w g cells))
theorem gy.up{g:Nat}{w0 w w':World}(hu:aoV w0 w)(h:gy g w w')(hg:w0.heap.size<=g):aoV w0 w':=
 Below.trans hu ⟨h.os,h.tape,h.output,h.size,λk hk=>h.block k (cg hk hu.size) (λe=>by have h9:k=g:=e;omega)⟩
theorem gy.own{g:Nat}{w w':World}(h:gy g w w'){base:Nat}{e:TypeId}{sz n:Nat}{v:Value}{xs:List Value}(ho:w.ownsRow base e sz v n xs)(hv:v.ownBlock≠some g):w'.ownsRow base e sz v n xs:=by
 refine⟨ho.1,?_⟩;rcases ho.2 with h2|⟨k,cap,cur,hk,hb,hh,r⟩
 .exact .inl h2
 .exact .inr ⟨k,cap,cur,hk,hb,(h.block k (aB hh) (λe9=>by have h9:k=g:=e9;exact hv (by rw[hk,h9];rfl))).trans hh,r⟩
end
theorem ab1:(prog.info? 37).map (·.size)=some 5:=by kernel_rfl
theorem IG{ops:Array Oper}{rest:List Oper}{o:Oper}{a:Act}{w:World}{Q:Exit->Act->World->Prop}(hgd:o.guard=none)(x y:Operand)(ho:o.op= .store 37 x y){g:Nat}{z0 iS z2 z3 z4 a0 a1 a2 a3 a4:Value}{t:TypeId}(hx:a.eval x= .pointer (some ⟨g,0,none⟩))(hy:a.eval y= .agg #[z0,iS,z2,z3,z4])(hg:w.heap[g]?=some (.cells #[a0,a1,a2,a3,a4] t (0,0)))(h1:(#[z0,iS,z2,z3,z4]:Array Value).all (·.oneCell')=true)(h:∀w',w'.heap[g]?=some (.cells #[z0,iS,z2,z3,z4] t (0,0))->gy g w w'->wpList prog ops Q rest (a.put o.dst undef) w'):wpList prog ops Q (o::rest) a w:=
 nW hgd 37 x y ho hx hy hg ab1 (show(5:Nat)=5 from rfl) h1 h
theorem Fo(g o:Nat)(x:Int)(w:World)(hc:w.cell? ⟨g,o,none⟩=some (.int .u64 x)):
 Calls prog 69 #[.pointer (some ⟨g,o,none⟩)] w λe w'=>e= .returned (.int .u64 x)/\w'=w:=by
 have hl:=run_call_load (P:=prog) func115 (by kernel_rfl) (by kernel_rfl) (by kernel_rfl) .u64 (by kernel_rfl) hc;go_enter func69,ntmps69
 go_wp2_with fail;go_ret;exact⟨rfl,rfl⟩
theorem MN(g o:Nat)(x y:Int)(w:World)(hc:w.cell? ⟨g,o,none⟩=some (.int .u64 x))(hz:w.frozen? ⟨g,o,none⟩=false):
 Calls prog 64 #[.pointer (some ⟨g,o,none⟩),.int .u64 y] w λe w'=>e= .returned (.tuple #[])/\w'=w.setCell ⟨g,o,none⟩ (.int .u64 y):=by
 have hst:=run_call_store (P:=prog) func113 (by kernel_rfl) (by kernel_rfl) (by kernel_rfl) (by kernel_rfl) (k:= .u64) (y:=y) hc hz;go_enter func64,ntmps64
 go_wp2_with fail;exact bodyPost_end (kV rfl _ _ _) rfl ⟨rfl,rfl⟩
theorem Q5(g o:Nat)(x y:Int)(w:World)(hc:w.cell? ⟨g,o,none⟩=some (.int .u64 x))(hz:w.frozen? ⟨g,o,none⟩=false)(hb:0<=x+y/\x+y<=18446744073709551615):
 Calls prog 24 #[.pointer (some ⟨g,o,none⟩),.int .u64 y] w λe w'=>e= .returned (.int .u64 (x+y))/\w'=w.setCell ⟨g,o,none⟩ (.int .u64 (x+y)):=by
 have hwr:IntKind.u64.wrap (x+y)=x+y:=IntWalk.u64_in _ (by omega);have wu:=run_call_add (P:=prog) func47 (by kernel_rfl) (by kernel_rfl) (by kernel_rfl) .u64 (by kernel_rfl) (y:=y) (s:=x+y) hc hz (by simp[go_sem];exact hwr);clear hwr;go_enter func24,ntmps24
 go_wp2_with fail;go_ret;exact⟨rfl,rfl⟩
def IV(c:Nat)(n:Int):Nat×Nat:=if n<0\/6<n then(0,1) else if c<1\/1099511627776<c then(0,16) else(c*8+n.toNat,0)
def Bh(nd aR ls:Nat):Nat×Nat×Nat:=if 1099511627776<=aR then(0,16,aR) else if ls<=aR then(0,19,aR) else((aR+1)*8+nd,0,aR+1)
def xc(aR v:Nat):Nat:=max aR (min (v / 8) 1099511627776)
def kj(B g nd aR ls:Nat):fy:=nj B g 155 #[.int .i64 nd,.int .u64 aR,.int .u64 ls]
theorem Dl{B g:Nat}{t:TypeId}{cs:Array Value}{K X:aD}{w w':World}(h:nj B g t cs K X w)(hu:aoV w w'):nj B g t cs K X w':=⟨(fP hu h.1),h.2⟩
theorem ux{B g i:Nat}{t:TypeId}{cs:Array Value}{K X:aD}{w:World}{v:Value}(h:nj B g t cs K X w)(hv:cs[i]?=some v):w.cell? ⟨g,i,none⟩=some v:=(aoW h.1 i).trans hv
theorem Dm{B g i:Nat}{t:TypeId}{cs:Array Value}{K X:aD}{w:World}(h:nj B g t cs K X w)(v:Value):nj B g t (cs.setIfInBounds i v) K X (w.setCell ⟨g,i,none⟩ v)/\aO K X w K X (w.setCell ⟨g,i,none⟩ v):=by
 refine⟨⟨bM w g i v cs t h.1,h.2⟩,eQ (aoZ _ _ g i v (V.af.refl (λk=>k=g) w)) (λk hk=>(h.2.2 k).2 hk),λk hk=> .inl hk,λ_ h=>h,λ_ h=> .inl h⟩
theorem aci(c:Nat)(n:Int)(w:World)(hc:c<18446744073709551616):Calls prog 70 #[.int .u64 c,.int .i64 n] w λe w'=>e= .returned (.tuple #[.int .u64 ((IV c n).1:Int),.int .i64 ((IV c n).2:Int)])/\w=w':=by
 have hm:IV c n=if n<0\/6<n then(0,1) else if c<1\/1099511627776<c then(0,16) else(c*8+n.toNat,0):=rfl
 by_cases h1:n<0\/6<n
 .rw[if_pos h1] at hm;have eT:=aoU hm;clear hm;rcases h1 with h1|h1
  .go_enter func70,ntmps70
   go_wp2_with fail;refine dm (v:= .tuple #[.int .u64 0,.int .i64 1]) (by simp[results,results70,go_sem]) rfl ?_;rw[eT.out];exact⟨rfl,rfl⟩
  .have h2:¬n<0:=by omega
   go_enter func70,ntmps70
   go_wp2_with fail;refine dm (v:= .tuple #[.int .u64 0,.int .i64 1]) (by simp[results,results70,go_sem]) rfl ?_;rw[eT.out];exact⟨rfl,rfl⟩
 .have h2:¬n<0:=by omega
  have h3:¬6<n:=by omega
  rw[if_neg h1] at hm;by_cases h4:c<1\/1099511627776<c
  .rw[if_pos h4] at hm;have eT:=aoU hm;clear hm h1;rcases h4 with h4|h4
   .have h5:(c:Int)<1:=by omega
    go_enter func70,ntmps70
    go_wp2_with fail;refine dm (v:= .tuple #[.int .u64 0,.int .i64 16]) (by simp[results,results70,go_sem]) rfl ?_;rw[eT.out];exact⟨rfl,rfl⟩
   .have h5:¬(c:Int)<1:=by omega
    have h6:(1099511627776:Int)<(c:Int):=by omega
    go_enter func70,ntmps70
    go_wp2_with fail;refine dm (v:= .tuple #[.int .u64 0,.int .i64 16]) (by simp[results,results70,go_sem]) rfl ?_;rw[eT.out];exact⟨rfl,rfl⟩
  .rw[if_neg h4] at hm;have h5:¬(c:Int)<1:=by omega
   have h6:¬(1099511627776:Int)<(c:Int):=by omega
   obtain⟨m,rfl⟩:∃m:Nat,n=(m:Int):=⟨n.toNat,by omega⟩
   rw[Int.toNat_natCast] at hm;have eT:=aoU hm;have w1:IntKind.u64.wrap ((c:Int)*8)=(c:Int)*8:=IntWalk.u64_in _ (by omega);have w2:IntKind.u64.wrap (m:Int)=(m:Int):=IntWalk.u64_in _ (by omega);have w3:IntKind.u64.wrap ((c:Int)*8+(m:Int))=(c:Int)*8+(m:Int):=IntWalk.u64_in _ (by omega);clear hm h1 h4;go_enter func70,ntmps70
   go_wp2_with fail;refine dm (v:= .tuple #[.int .u64 ((c:Int)*8+(m:Int)),.int .i64 0]) (by simp[results,results70,go_sem]) rfl ?_;rw[eT.out];refine⟨?_,rfl⟩;simp
theorem Yy{B g nd aR ls:Nat}{K X:aD}{w:World}(h:kj B g nd aR ls K X w)(hn:nd<=6)(hw:aR<18446744073709551615):
 Calls prog 41 #[.pointer (some ⟨g,0,none⟩)] w λe w'=>e= .returned (.tuple #[.int .u64 ((Bh nd aR ls).1:Int),.int .i64 ((Bh nd aR ls).2.1:Int)])/\kj B g nd (Bh nd aR ls).2.2 ls K X w'/\aO K X w K X w':=by
 have hx:Bh nd aR ls=if 1099511627776<=aR then(0,16,aR) else if ls<=aR then(0,19,aR) else((aR+1)*8+nd,0,aR+1):=rfl
 have ew:=aoU hx;clear hx;have c0:w.cell? ⟨g,0,none⟩=some (.int .i64 nd):=ux h rfl;have c1:w.cell? ⟨g,1,none⟩=some (.int .u64 aR):=ux h rfl;have c2:w.cell? ⟨g,2,none⟩=some (.int .u64 ls):=ux h rfl;go_enter func41,ntmps41
 go_wp2_with fail;refine(Fo g 1 (aR:Int) w c1).mono ?_;rintro e w1⟨rfl,rfl⟩;by_cases h1:1099511627776<=aR
 .have i1:(1099511627776:Int)<=(aR:Int):=by omega
  have hx:=ew.out;rw[if_pos h1] at hx;have ew:=aoU hx;clear hx h1;go_wp2_with fail;refine dm (v:= .tuple #[.int .u64 0,.int .i64 16]) (by simp[results,results41,go_sem]) rfl ?_;rw[ew.out];exact⟨rfl,h,aO.refl _ _ _⟩
 .have i1:decide ((1099511627776:Int)<=(aR:Int))=false:=by rw[iO];omega
  have hx:=ew.out;rw[if_neg h1] at hx;have ew:=aoU hx;have H1:=aoU h1;clear hx h1;go_wp2_with fail;refine(Fo g 2 (ls:Int) w1 c2).mono ?_;rintro e w2⟨rfl,rfl⟩;have hx:=ew.out;have h1:=H1.out;by_cases h2:ls<=aR
  .have i2:decide (ls<=aR)=true:=by rw[lw];omega
   rw[if_pos h2] at hx;have ew:=aoU hx;clear hx h1 h2;go_wp2_with fail;refine dm (v:= .tuple #[.int .u64 0,.int .i64 19]) (by simp[results,results41,go_sem]) rfl ?_;rw[ew.out];exact⟨rfl,h,aO.refl _ _ _⟩
  .have i2:decide (ls<=aR)=false:=by rw[iO];omega
   rw[if_neg h2] at hx;have ew:=aoU hx;have hmk:IV (aR+1) (nd:Int)=((aR+1)*8+nd,0):=by
    unfold IV;rw[if_neg (by omega),if_neg (by omega),Int.toNat_natCast]
   have Yz:∀W,Calls prog 70 #[.int .u64 ((aR:Int)+1),.int .i64 nd] W λe w'=>e= .returned (.tuple #[.int .u64 (((aR+1)*8+nd:Nat):Int),.int .i64 0])/\W=w':=λW=>by
    have:=aci (aR+1) (nd:Int) W (by omega);rw[hmk] at this;exact this
   have acj:=aoU Yz;have AD:∀W,kj B g nd aR ls K X W->Calls prog 24 #[.pointer (some ⟨g,1,none⟩),.int .u64 1] W λe w'=>e= .returned (.int .u64 ((aR:Int)+1))/\kj B g nd (aR+1) ls K X w'/\V.af (λk=>k=g) W w':=λW hW=>by
    refine(Q5 g 1 (aR:Int) 1 W (ux hW rfl) (ay hW.1 1) (by omega)).mono ?_;rintro e w'⟨rfl,rfl⟩;have h3:=Dm (i:=1) hW (.int .u64 ((aR:Int)+1));exact⟨rfl,h3.1,eQ h3.2.kept (λk hk=>(h.2.2 k).1 hk)⟩
   have apV:=aoU AD;clear hx h1 h2 hmk Yz AD;go_wp2_with fail;apply V.iE (λi vs W=>V.af (λk=>k=g) w2 W/\W.cell? ⟨g,0,none⟩=some (.int .i64 nd)/\(i=0->kj B g nd aR ls K X W)/\(i=1->kj B g nd (aR+1) ls K X W)/\(i=2->kj B g nd (aR+1) ls K X W)) (by kernel_rfl) (by kernel_rfl) (λvs=>⟨V.af.co (aoV.drew (aoV.refl w2)),ux (Dl h (aoV.drew (aoV.refl w2))) rfl,λ_=>Dl h (aoV.drew (aoV.refl w2)),λe=>absurd e (by decide),λe=>absurd e (by decide)⟩)
   .intro aF aoX;iterate 3 (apply V.az.ok;intros;go_simp;rfl;rfl;go_frame)
    apply V.az.call (.int .u64 ((aR:Int)+1));rfl
    .intro vs ag hS cY ah;obtain⟨k1,k2,aY,-⟩:=hS;go_simp;refine(apV.out ag (aY rfl)).mono ?_;rintro e ai⟨rfl,H5,mM⟩;exact ah.out _ ⟨ci k1 mM,ux H5 rfl,λe=>absurd e (by decide),λ_=>H5,λe=>absurd e (by decide)⟩
    simp only[au,Nat.reduceAdd];iterate 3 (apply V.az.ok;intros;go_simp;rfl;rfl;go_frame)
    apply V.az.ok
    .intro i vs ag hS;obtain⟨k1,k2,-⟩:=hS;go_simp;rfl
    .rfl
    simp only[au,Nat.reduceAdd];apply V.az.call (.tuple #[.int .u64 (((aR+1)*8+nd:Nat):Int),.int .i64 0]);rfl
    .intro vs ag hS cY ah;obtain⟨k1,k2,-,aY,-⟩:=hS;go_simp;refine(acj.out ag).mono ?_;rintro e ai⟨rfl,rfl⟩;exact ah.out _ ⟨k1,k2,λe=>absurd e (by decide),λe=>absurd e (by decide),λ_=>aY rfl⟩
    simp only[au,Nat.reduceAdd];iterate 4 (apply V.az.ok;intros;go_simp;rfl;rfl;go_frame)
    apply V.az.fin;intro vs ag hS;obtain⟨k1,k2,-,-,aY⟩:=hS;have cJ:=aY rfl;clear aY;refine aoX.out _ _ ?_;clear aoX
    (try dsimp only)
    go_wp2_with fail;refine dm (v:= .tuple #[.int .u64 (((aR+1)*8+nd:Nat):Int),.int .i64 0]) (by simp[results,results41,go_sem]) rfl ?_;rw[ew.out];exact⟨rfl,cJ,eQ k1 (λk hk=>(h.2.2 k).2 hk),λk hk=> .inl hk,λ_ h=>h,λ_ h=> .inl h⟩
   .kernel_rfl
abbrev Bl(i:aC):Value:= .agg #[.int .i64 i.s.toInt,.int .i64 i.k.toInt,.int .u64 i.t.toNat,.int .u64 i.v.toNat,.int .i64 i.x.toInt]
theorem Y7(a b:aC)(w:World):Calls prog 295 #[Bl a,Bl b] w λe w'=>e= .returned (.int .i64 (if fR a b=true then -1 else 1))/\aoV w w':=by
 cases h:fR a b with
 |true=>
  have bU:=aoU (Hz a b);rw[h] at bU;have dr:=bU;clear h bU;go_enter func295,ntmps295
  go_wp2_with fail;refine(dr.out _).mono ?_;rintro e w1⟨rfl,hu⟩;go_wp2_with fail;go_ret;exact⟨rfl,(((aoV.refl w).alloc _).alloc _).trans hu⟩
 |false=>
  have bU:=aoU (Hz a b);rw[h] at bU;have dr:=bU;clear h bU;go_enter func295,ntmps295
  go_wp2_with fail;refine(dr.out _).mono ?_;rintro e w1⟨rfl,hu⟩;go_wp2_with fail;go_ret;exact⟨rfl,(((aoV.refl w).alloc _).alloc _).trans hu⟩
theorem Rd.FA{w:World}{B n:Nat}{A:Option Addr}{l:List aC}(h:Rd w B 5 A n (bl l))(hB:B<=w.heap.size){k:Nat}(hk:k<n)(hl:k<l.length):
 ∃b o,A=some ⟨b,o,none⟩/\∀W,aoV w W->aoV w W/\W.cell? ⟨b,o+k*5,none⟩=some (.int .i64 l[k].s.toInt)/\W.cell? ⟨b,o+k*5+1,none⟩=some (.int .i64 l[k].k.toInt)/\W.cell? ⟨b,o+k*5+2,none⟩=some (.int .u64 (l[k].t.toNat:Int))/\W.cell? ⟨b,o+k*5+3,none⟩=some (.int .u64 (l[k].v.toNat:Int))/\W.cell? ⟨b,o+k*5+4,none⟩=some (.int .i64 l[k].x.toInt):=by
 obtain⟨b,o,x,rfl,hb,hx,c0,c1,c2,c3,c4⟩:=h.wI hk;rw[dh hl] at hx;injection hx with hx;rw[hx];have ao0:b<w.heap.size:=cg hb hB;exact⟨b,o,rfl,λW h=>⟨h,(h.cell (p:=⟨b,o+k*5,none⟩) ao0).trans c0,(h.cell (p:=⟨b,o+k*5+1,none⟩) ao0).trans c1,(h.cell (p:=⟨b,o+k*5+2,none⟩) ao0).trans c2,(h.cell (p:=⟨b,o+k*5+3,none⟩) ao0).trans c3,(h.cell (p:=⟨b,o+k*5+4,none⟩) ao0).trans c4⟩⟩
theorem ac4(A:Option Addr)(n c:Nat)(l:List aC)(x:aC)(w:World)(hr:Rd w w.heap.size 5 A n (bl l))(hn:n<=1099511627776)(hs:oi l):
 Calls prog 294 #[.slice A n c,Bl x,.func (.func 295) #[] #[]] w λe w'=>e= .returned (.tuple #[.int .i64 (eY l x:Int),.bool false])/\aoV w w':=by
 have bU:=aoU hr.og;have dg:=aoU hs;have ao6:aoV w (w.alloc (.cells #[.int .i64 x.s.toInt,.int .i64 x.k.toInt,.int .u64 x.t.toNat,.int .u64 x.v.toNat,.int .i64 x.x.toInt] 37)):=(aoV.refl w).alloc _;have aL:=bp w (.cells #[.int .i64 x.s.toInt,.int .i64 x.k.toInt,.int .u64 x.t.toNat,.int .u64 x.v.toNat,.int .i64 x.x.toInt] 37);have kL:=hr.up ao6;clear hs;go_enter func294,ntmps294
 go_wp2_with fail;generalize w.alloc (.cells #[.int .i64 x.s.toInt,.int .i64 x.k.toInt,.int .u64 x.t.toNat,.int .u64 x.v.toNat,.int .i64 x.x.toInt] 37)=w0 at *;have eH:w.heap.size<w0.heap.size:=aB aL;generalize w.heap.size=br at *;have MV:∀W,aoV w0 W->W.cell? ⟨br,0,none⟩=some (.int .i64 x.s.toInt)/\W.cell? ⟨br,1,none⟩=some (.int .i64 x.k.toInt)/\W.cell? ⟨br,2,none⟩=some (.int .u64 x.t.toNat)/\W.cell? ⟨br,3,none⟩=some (.int .u64 x.v.toNat)/\W.cell? ⟨br,4,none⟩=some (.int .i64 x.x.toInt):=λW hW=>
  ⟨(hW.cell (p:=⟨br,0,none⟩) eH).trans (aoW aL 0),(hW.cell (p:=⟨br,1,none⟩) eH).trans (aoW aL 1),(hW.cell (p:=⟨br,2,none⟩) eH).trans (aoW aL 2),(hW.cell (p:=⟨br,3,none⟩) eH).trans (aoW aL 3),(hW.cell (p:=⟨br,4,none⟩) eH).trans (aoW aL 4)⟩
 go_loopw[9,10] (λi j wr=>∃p q:Nat,i= .int .i64 p/\j= .int .i64 q/\p<=q/\q<=n/\Hid (∀t (ht:t<l.length),t<p->fR l[t] x=true)/\Hid (∀t (ht:t<l.length),q<=t->fR l[t] x=false)/\aoV w0 wr) (λi j _=>(intOf j).toNat-(intOf i).toNat)
 case atStart=>exact⟨0,n,rfl,rfl,by omega,by omega,λt ht h=>absurd h (Nat.not_lt_zero _),λt ht h=>by have:=bU.out;omega,aoV.refl _⟩
 case round=>
  obtain⟨p,q,rfl,rfl,hpq,ID,hlo,hhi,hu⟩:=hrel;by_cases hlt:p<q
  .obtain⟨m,hm⟩:=bB ((p+q) / 2)
   have sq:p<=m:=by omega
   have hm2:m<q:=by omega
   have hml:m<l.length:=by have:=bU.out;omega
   have iS:IntKind.i64.wrap ((p:Int)+(q:Int))=((p+q:Nat):Int):=by rw[IntWalk.i64_in _ (by omega)];omega
   have z2:IntKind.u64.wrap ((p+q:Nat):Int)=((p+q:Nat):Int):=IntWalk.u64_in _ (by omega);have z3:((p+q:Nat):Int) / 2=(m:Int):=by omega
   have z4:IntKind.i64.wrap (m:Int)=(m:Int):=IntWalk.i64_in _ (by omega);have z5:IntKind.u64.wrap (m:Int)=(m:Int):=IntWalk.u64_in _ (by omega);have ac6:decide (p<q)=true:=by rw[lw];omega
   generalize p+q=amT at *;clear hm;obtain⟨b,o,rfl,hit⟩:=(kL.up hu).FA (aZ _) (show m<n by omega) hml;have hcmp:=λW=>Y7 l[m] x W
   obtain⟨lb,hlb⟩:=bB (fR l[m] x)
   rw[<- hlb] at hcmp;have uc:=aoU hlb;have hS:∀W,aoV wr W->(aoV wr W/\W.cell? ⟨b,o+m*5,none⟩=some (.int .i64 l[m].s.toInt)/\W.cell? ⟨b,o+m*5+1,none⟩=some (.int .i64 l[m].k.toInt)/\W.cell? ⟨b,o+m*5+2,none⟩=some (.int .u64 (l[m].t.toNat:Int))/\W.cell? ⟨b,o+m*5+3,none⟩=some (.int .u64 (l[m].v.toNat:Int))/\W.cell? ⟨b,o+m*5+4,none⟩=some (.int .i64 l[m].x.toInt))/\
    (W.cell? ⟨br,0,none⟩=some (.int .i64 x.s.toInt)/\W.cell? ⟨br,1,none⟩=some (.int .i64 x.k.toInt)/\W.cell? ⟨br,2,none⟩=some (.int .u64 x.t.toNat)/\W.cell? ⟨br,3,none⟩=some (.int .u64 x.v.toNat)/\W.cell? ⟨br,4,none⟩=some (.int .i64 x.x.toInt)):=λW h=>⟨hit W h,MV W (hu.trans h)⟩
   have hmn:(m:Int)<(n:Int):=by omega
   have ac7:m<n:=by omega
   clear hlb hit;go_wp2_with fail;cases lb
   .apply V.fQ _ (by kernel_rfl) (by kernel_rfl) hS
    .intro aF aoX;iterate 6 (apply V.aj.ok;intros;go_simp;rfl;rfl;go_frame)
     apply V.aj.call (.int .i64 1) [];rfl
     .intro vs w1 hK hS _ K ah;go_simp;refine(hcmp w1).mono ?_;rintro e w2⟨rfl,aq⟩;exact ah.out _ aq
     simp only[au,Nat.reduceAdd];iterate 1 (apply V.aj.ok;intros;go_simp;rfl;rfl;go_frame)
     apply V.aj.fin [];intro vs w1 hK hS _;refine aoX.out _ _ ?_;clear aoX;have aq:=hu.trans (jR hK);clear hS hK;go_wp2_with fail;go_roundw
     case rel=>
      refine⟨p,m,by go_num,by go_num,by omega,by omega,hlo,λt ht h=>?_,aq⟩;exact dg.out.mono h ht uc.out.symm
     case measure=>simp[intOf];omega
    .kernel_rfl
   .apply V.fQ _ (by kernel_rfl) (by kernel_rfl) hS
    .intro aF aoX;iterate 6 (apply V.aj.ok;intros;go_simp;rfl;rfl;go_frame)
     apply V.aj.call (.int .i64 (-1)) [];rfl
     .intro vs w1 hK hS _ K ah;go_simp;refine(hcmp w1).mono ?_;rintro e w2⟨rfl,aq⟩;exact ah.out _ aq
     simp only[au,Nat.reduceAdd];iterate 1 (apply V.aj.ok;intros;go_simp;rfl;rfl;go_frame)
     apply V.aj.fin [];intro vs w1 hK hS _;refine aoX.out _ _ ?_;clear aoX;have aq:=hu.trans (jR hK);clear hS hK;go_wp2_with fail;go_roundw
     case rel=>
      refine⟨m+1,q,by go_num,by go_num,by omega,by omega,λt ht h=>?_,hhi,aq⟩;rcases Nat.lt_or_eq_of_le (show t<=m by omega) with h9|h9
      .exact Ik ((List.pairwise_iff_getElem.1 dg.out) t m ht hml h9) uc.out.symm
      .subst h9;exact uc.out.symm
     case measure=>simp[intOf];omega
    .kernel_rfl
  .have ac6:decide (p<q)=false:=by rw[iO];omega
   have e1:p=q:=by omega
   subst e1;have dJ:eY l x=p:=abg dg.out (by have:=bU.out;omega) (λj hj h=>hlo.out j hj h) (λj hj h=>hhi.out j hj h);have oh:=aoU dJ;clear dJ;by_cases mX:p<n
   .have pS:p<l.length:=by have:=bU.out;omega
    have FB:decide (p<n)=true:=by rw[lw];omega
    obtain⟨b,o,rfl,hit⟩:=(kL.up hu).FA (aZ _) mX pS;have hcmp:=λW=>Y7 l[p] x W
    obtain⟨lb,hlb⟩:=bB (fR l[p] x)
    rw[<- hlb] at hcmp;have hS:∀W,aoV wr W->(aoV wr W/\W.cell? ⟨b,o+p*5,none⟩=some (.int .i64 l[p].s.toInt)/\W.cell? ⟨b,o+p*5+1,none⟩=some (.int .i64 l[p].k.toInt)/\W.cell? ⟨b,o+p*5+2,none⟩=some (.int .u64 (l[p].t.toNat:Int))/\W.cell? ⟨b,o+p*5+3,none⟩=some (.int .u64 (l[p].v.toNat:Int))/\W.cell? ⟨b,o+p*5+4,none⟩=some (.int .i64 l[p].x.toInt))/\
     (W.cell? ⟨br,0,none⟩=some (.int .i64 x.s.toInt)/\W.cell? ⟨br,1,none⟩=some (.int .i64 x.k.toInt)/\W.cell? ⟨br,2,none⟩=some (.int .u64 x.t.toNat)/\W.cell? ⟨br,3,none⟩=some (.int .u64 x.v.toNat)/\W.cell? ⟨br,4,none⟩=some (.int .i64 x.x.toInt)):=λW h=>⟨hit W h,MV W (hu.trans h)⟩
    have hmn:(p:Int)<(n:Int):=by omega
    clear hlb hit;go_wp2_with fail;cases lb
    .apply V.fQ _ (by kernel_rfl) (by kernel_rfl) hS
     .intro aF aoX;iterate 5 (apply V.aj.ok;intros;go_simp;rfl;rfl;go_frame)
      iterate 6 (apply V.aj.eI (t:=39);intros;go_simp;rfl;rfl;intro;rfl;go_frame)
      apply V.aj.p7 (t:=39) (.int .i64 1) [];rfl
      .intro vs;rfl
      .intro vs w1 hK hS _ K ah;go_simp;refine(hcmp w1).mono ?_;rintro e w2⟨rfl,aq⟩;exact ah.out _ aq
      simp only[au,Nat.reduceAdd];iterate 1 (apply V.aj.eI (t:=39);intros;go_simp;rfl;rfl;intro;rfl;go_frame)
      iterate 3 (apply V.aj.ok;intros;go_simp;rfl;rfl;go_frame)
      apply V.aj.fin [];intro vs w1 hK hS _;refine aoX.out _ _ ?_;clear aoX;have aq:=hu.trans (jR hK);clear hS hK;go_wp2_with fail;refine dm (v:= .tuple #[.int .i64 p,.bool false]) (by simp[results,results294,go_sem]) rfl ?_;rw[oh.out];exact⟨rfl,ao6.trans aq⟩
     .kernel_rfl
    .apply V.fQ _ (by kernel_rfl) (by kernel_rfl) hS
     .intro aF aoX;iterate 5 (apply V.aj.ok;intros;go_simp;rfl;rfl;go_frame)
      iterate 6 (apply V.aj.eI (t:=39);intros;go_simp;rfl;rfl;intro;rfl;go_frame)
      apply V.aj.p7 (t:=39) (.int .i64 (-1)) [];rfl
      .intro vs;rfl
      .intro vs w1 hK hS _ K ah;go_simp;refine(hcmp w1).mono ?_;rintro e w2⟨rfl,aq⟩;exact ah.out _ aq
      simp only[au,Nat.reduceAdd];iterate 1 (apply V.aj.eI (t:=39);intros;go_simp;rfl;rfl;intro;rfl;go_frame)
      iterate 3 (apply V.aj.ok;intros;go_simp;rfl;rfl;go_frame)
      apply V.aj.fin [];intro vs w1 hK hS _;refine aoX.out _ _ ?_;clear aoX;have aq:=hu.trans (jR hK);clear hS hK;go_wp2_with fail;refine dm (v:= .tuple #[.int .i64 p,.bool false]) (by simp[results,results294,go_sem]) rfl ?_;rw[oh.out];exact⟨rfl,ao6.trans aq⟩
     .kernel_rfl
   .have FB:decide (p<n)=false:=by rw[iO];omega
    go_wp2_with fail;apply V.fQ (λW=>aoV wr W) (by kernel_rfl) (by kernel_rfl) (λw1 h=>h)
    .intro aF aoX;iterate 5 (apply V.aj.ok;intros;go_simp;rfl;rfl;go_frame)
     iterate 8 (apply V.aj.sL (t:=39) (y:=false);(· rfl);(· intro vs;rfl);(· rfl);simp only[au,Nat.reduceAdd])
     iterate 3 (apply V.aj.ok;intros;go_simp;rfl;rfl;go_frame)
     apply V.aj.fin [];intro vs w1 hK hS _;refine aoX.out _ _ ?_;clear aoX;have aq:=hu.trans (jR hK);clear hS hK;go_wp2_with fail;refine dm (v:= .tuple #[.int .i64 p,.bool false]) (by simp[results,results294,go_sem]) rfl ?_;rw[oh.out];exact⟨rfl,ao6.trans aq⟩
    .kernel_rfl
theorem Y8(A:Option Addr)(n c:Nat)(l:List aC)(x:aC)(w:World)(hr:Rd w w.heap.size 5 A n (bl l))(hn:n<=1099511627776)(hs:oi l):
 Calls prog 238 #[.slice A n c,Bl x] w λe w'=>e= .returned (.tuple #[.int .i64 (eY l x:Int),.bool (kD l x)])/\aoV w w':=by
 have bU:=aoU hr.og;have ao6:aoV w (w.alloc (.cells #[.int .i64 x.s.toInt,.int .i64 x.k.toInt,.int .u64 x.t.toNat,.int .u64 x.v.toNat,.int .i64 x.x.toInt] 37)):=(aoV.refl w).alloc _;have aL:=bp w (.cells #[.int .i64 x.s.toInt,.int .i64 x.k.toInt,.int .u64 x.t.toNat,.int .u64 x.v.toNat,.int .i64 x.x.toInt] 37);have kL:=hr.up ao6;have Ex:=λW hW=>ac4 A n c l x W hW hn hs
 obtain⟨p,hp⟩:=bB (eY l x)
 obtain⟨q,hq⟩:=bB (kD l x)
 have eM:q=(l[p]?).any λy=>xX y x:=by rw[hq,hp];rfl
 rw[<- hp,<- hq];rw[<- hp] at Ex;have ac8:=aoU Ex;have ji:=aoU eM;have hpb:p<=l.length:=by rw[hp];exact abh l x
 clear hs hp hq eM Ex;go_enter func238,ntmps238
 go_wp2_with fail;generalize w.alloc (.cells #[.int .i64 x.s.toInt,.int .i64 x.k.toInt,.int .u64 x.t.toNat,.int .u64 x.v.toNat,.int .i64 x.x.toInt] 37)=w0 at *;have eH:w.heap.size<w0.heap.size:=aB aL;generalize w.heap.size=br at *;have MV:∀W,aoV w0 W->W.cell? ⟨br,0,none⟩=some (.int .i64 x.s.toInt)/\W.cell? ⟨br,1,none⟩=some (.int .i64 x.k.toInt)/\W.cell? ⟨br,2,none⟩=some (.int .u64 x.t.toNat)/\W.cell? ⟨br,3,none⟩=some (.int .u64 x.v.toNat)/\W.cell? ⟨br,4,none⟩=some (.int .i64 x.x.toInt):=λW hW=>
  ⟨(hW.cell (p:=⟨br,0,none⟩) eH).trans (aoW aL 0),(hW.cell (p:=⟨br,1,none⟩) eH).trans (aoW aL 1),(hW.cell (p:=⟨br,2,none⟩) eH).trans (aoW aL 2),(hW.cell (p:=⟨br,3,none⟩) eH).trans (aoW aL 3),(hW.cell (p:=⟨br,4,none⟩) eH).trans (aoW aL 4)⟩
 refine(ac8.out w0 kL).mono ?_;rintro e w1⟨rfl,hu1⟩;by_cases mX:p<n
 .have pS:p<l.length:=by have:=bU.out;omega
  have FB:decide (p<n)=true:=by rw[lw];omega
  have hmn:(p:Int)<(n:Int):=by omega
  obtain⟨b,o,rfl,hit⟩:=(kL.up hu1).FA (aZ _) mX pS;have Mn:=λW=>b7 l[p] x W
  have zc:q=xX l[p] x:=by rw[ji.out,dh pS];rfl
  rw[<- zc] at Mn;have hS:∀W,aoV w1 W->(aoV w1 W/\W.cell? ⟨b,o+p*5,none⟩=some (.int .i64 l[p].s.toInt)/\W.cell? ⟨b,o+p*5+1,none⟩=some (.int .i64 l[p].k.toInt)/\W.cell? ⟨b,o+p*5+2,none⟩=some (.int .u64 (l[p].t.toNat:Int))/\W.cell? ⟨b,o+p*5+3,none⟩=some (.int .u64 (l[p].v.toNat:Int))/\W.cell? ⟨b,o+p*5+4,none⟩=some (.int .i64 l[p].x.toInt))/\
   (W.cell? ⟨br,0,none⟩=some (.int .i64 x.s.toInt)/\W.cell? ⟨br,1,none⟩=some (.int .i64 x.k.toInt)/\W.cell? ⟨br,2,none⟩=some (.int .u64 x.t.toNat)/\W.cell? ⟨br,3,none⟩=some (.int .u64 x.v.toNat)/\W.cell? ⟨br,4,none⟩=some (.int .i64 x.x.toInt)):=λW h=>⟨hit W h,MV W (hu1.trans h)⟩
  clear hit zc;go_wp2_with fail;apply V.fQ _ (by kernel_rfl) (by kernel_rfl) hS
  .intro aF aoX;iterate 6 (apply V.aj.ok;intros;go_simp;rfl;rfl;go_frame)
   iterate 5 (apply V.aj.eI (t:=19);intros;go_simp;rfl;rfl;intro;rfl;go_frame)
   apply V.aj.p7 (t:=19) (.bool q) [];rfl
   .intro vs;rfl
   .intro vs w1 hK hS _ K ah;go_simp;refine(Mn w1).mono ?_;rintro e w2⟨rfl,aq⟩;exact ah.out _ aq
   simp only[au,Nat.reduceAdd];iterate 3 (apply V.aj.ok;intros;go_simp;rfl;rfl;go_frame)
   apply V.aj.fin [];intro vs w1 hK hS _;refine aoX.out _ _ ?_;clear aoX;have aq:=hu1.trans (jR hK);clear hS hK;go_wp2_with fail;refine dm (v:= .tuple #[.int .i64 p,.bool q]) (by simp[results,results238,go_sem]) rfl ?_;exact⟨rfl,ao6.trans aq⟩
  .kernel_rfl
 .have FB:decide (p<n)=false:=by rw[iO];omega
  have zc:q=false:=by rw[ji.out,List.getElem?_eq_none (by have:=bU.out;omega)];rfl
  subst zc;go_wp2_with fail;apply V.fQ (λW=>aoV w1 W) (by kernel_rfl) (by kernel_rfl) (λw1 h=>h)
  .intro aF aoX;iterate 6 (apply V.aj.ok;intros;go_simp;rfl;rfl;go_frame)
   iterate 6 (apply V.aj.sL (t:=19) (y:=false);(· rfl);(· intro vs;rfl);(· rfl);simp only[au,Nat.reduceAdd])
   iterate 3 (apply V.aj.ok;intros;go_simp;rfl;rfl;go_frame)
   apply V.aj.fin [];intro vs w1 hK hS _;refine aoX.out _ _ ?_;clear aoX;have aq:=hu1.trans (jR hK);clear hS hK;go_wp2_with fail;refine dm (v:= .tuple #[.int .i64 p,.bool false]) (by simp[results,results238,go_sem]) rfl ?_;exact⟨rfl,ao6.trans aq⟩
  .kernel_rfl
def zC(o:Option aC):aC×Bool:=match o with|some t=>(t,true)|none=>(qq,false)
theorem ap0(A:Option Addr)(n c:Nat)(l:List aC)(s:Int64)(w:World)(hr:Rd w w.heap.size 5 A n (bl l))(hn:n<=1099511627776)(hs:oi l):
 Calls prog 293 #[.slice A n c,.int .i64 s.toInt] w λe w'=>e= .returned (.tuple #[Bl (zC (uk l s)).1,.bool (zC (uk l s)).2])/\aoV w w':=by
 have bU:=aoU hr.og;have ao6:aoV w (w.alloc (.cells #[.int .i64 0,.int .i64 0,.int .u64 0,.int .u64 0,.int .i64 0] 37)):=(aoV.refl w).alloc _;have aL:=bp w (.cells #[.int .i64 0,.int .i64 0,.int .u64 0,.int .u64 0,.int .i64 0] 37);have kL:=hr.up ao6;have dJ:∀W,Rd W W.heap.size 5 A n (bl l)->Calls prog 238 #[.slice A n c,.agg #[.int .i64 s.toInt,.int .i64 1,.int .u64 0,.int .u64 0,.int .i64 0]] W λe w'=>e= .returned (.tuple #[.int .i64 (eY l (pK s):Int),.bool (kD l (pK s))])/\aoV W w':=λW hW=>Y8 A n c l (pK s) W hW hn hs
 have hto:uk l s=if kD l (pK s)=true then l[eY l (pK s)]? else none:=rfl
 have hat:kD l (pK s)=true->eY l (pK s)<l.length:=λh=>by
  rcases Nat.lt_or_ge (eY l (pK s)) l.length with h9|h9
  .exact h9
  .unfold kD at h;rw[List.getElem?_eq_none h9] at h;cases h
 have fk:=aoU hto;clear hs hto;generalize eY l (pK s)=p at *;generalize kD l (pK s)=q at *;have oh:=aoU dJ;clear dJ;go_enter func293,ntmps293
 go_wp2_with fail;generalize w.alloc (.cells #[.int .i64 0,.int .i64 0,.int .u64 0,.int .u64 0,.int .i64 0] 37)=w0 at *;have tG:w.heap.size<=w.heap.size:=aZ _;refine(oh.out w0 kL).mono ?_;rintro e w1⟨rfl,hu1⟩;have hz:=aH hu1 aL;have cj:=ao6.trans hu1;cases q
 .have hV:zC (uk l s)=(qq,false):=by rw[fk.out];rfl
  have cd:=aoU hV;clear hV hat aL;generalize ex:w.heap.size=g2 at *;go_wp2_with (first
   |(
    with_reducible show wpList _ _ _ (⟨none,.store 37 _ _,_,_,_,none⟩::_) _ _
    go_loud (refine IG rfl _ _ rfl (g:=g2) (z0:= .int .i64 0) (iS:= .int .i64 0) (z2:= .int .u64 0) (z3:= .int .u64 0) (z4:= .int .i64 0) (by kernel_rfl) (by kernel_rfl) hz (by simp[Value.oneCell']) ?_)
    intro ai hgd dF;have nT:=gy.up cj dF (by rw[ex];exact aZ _);clear dF;obtain⟨e0,e1,e2,bG,bT⟩:=rK hgd;have f0:=ay hgd 0;have f1:=ay hgd 1;have f2:=ay hgd 2;have f3:=ay hgd 3;have f4:=ay hgd 4;simp only[List.getElem?_toArray,List.getElem?_cons_zero,List.getElem?_cons_succ] at e0 e1 e2 bG bT;clear hgd))
  refine dm (v:= .tuple #[.agg #[.int .i64 0,.int .i64 0,.int .u64 0,.int .u64 0,.int .i64 0],.bool false]) (by simp[results,results293,go_sem,e0,e1,e2,bG,bT]) rfl ?_;rw[cd.out];exact⟨rfl,nT⟩
 .have pS:=hat rfl;have hV:zC (uk l s)=(l[p],true):=by rw[fk.out,if_pos rfl,dh pS];rfl
  have cd:=aoU hV;have mX:p<n:=by have:=bU.out;omega
  have FB:(p:Int)<(n:Int):=by omega
  obtain⟨b,o,rfl,hit⟩:=(kL.up hu1).FA (aZ _) mX pS;obtain⟨-,jd,s1,s2,s3,dP⟩:=hit w1 (aoV.refl w1);clear hV hat aL hit;generalize l[p]=y at *;generalize ex:w.heap.size=g2 at *;go_wp2_with (first
   |(
    with_reducible show wpList _ _ _ (⟨none,.store 37 _ _,_,_,_,none⟩::_) _ _
    go_loud (refine IG rfl _ _ rfl (g:=g2) (z0:= .int .i64 y.s.toInt) (iS:= .int .i64 y.k.toInt) (z2:= .int .u64 y.t.toNat) (z3:= .int .u64 y.v.toNat) (z4:= .int .i64 y.x.toInt) (by kernel_rfl) (by kernel_rfl) hz (by simp[Value.oneCell']) ?_)
    intro ai hgd dF;have nT:=gy.up cj dF (by rw[ex];exact aZ _);clear dF;obtain⟨e0,e1,e2,bG,bT⟩:=rK hgd;have f0:=ay hgd 0;have f1:=ay hgd 1;have f2:=ay hgd 2;have f3:=ay hgd 3;have f4:=ay hgd 4;simp only[List.getElem?_toArray,List.getElem?_cons_zero,List.getElem?_cons_succ] at e0 e1 e2 bG bT;clear hgd))
  refine dm (v:= .tuple #[.agg #[.int .i64 y.s.toInt,.int .i64 y.k.toInt,.int .u64 y.t.toNat,.int .u64 y.v.toNat,.int .i64 y.x.toInt],.bool true]) (by simp[results,results293,go_sem,e0,e1,e2,bG,bT]) rfl ?_;rw[cd.out];exact⟨rfl,nT⟩
theorem Y9(A:Option Addr)(n c:Nat)(l:List aC)(x:aC)(w:World)(hr:Rd w w.heap.size 5 A n (bl l))(hn:n<=1099511627776)(hs:oi l):
 Calls prog 237 #[.slice A n c,Bl x] w λe w'=>e= .returned (.bool (mB l x))/\aoV w w':=by
 have ao6:aoV w (w.alloc (.cells #[.int .i64 x.s.toInt,.int .i64 x.k.toInt,.int .u64 x.t.toNat,.int .u64 x.v.toNat,.int .i64 x.x.toInt] 37)):=(aoV.refl w).alloc _;have aL:=bp w (.cells #[.int .i64 x.s.toInt,.int .i64 x.k.toInt,.int .u64 x.t.toNat,.int .u64 x.v.toNat,.int .i64 x.x.toInt] 37);have kL:=hr.up ao6;have htb:=λW hW=>ap0 A n c l x.s W hW hn hs
 have hh:mB l x=((zC (uk l x.s)).2&&ti (zC (uk l x.s)).1 x):=by
  unfold mB zC;cases uk l x.s <;>rfl
 obtain⟨t,ht⟩:=bB ((zC (uk l x.s)).1)
 obtain⟨q,hq⟩:=bB ((zC (uk l x.s)).2)
 rw[<- ht,<- hq] at hh;rw[<- ht,<- hq] at htb;have ada:=aoU htb;have dr:=aoU hh;clear hh htb hs ht hq;go_enter func237,ntmps237
 go_wp2_with fail;generalize w.alloc (.cells #[.int .i64 x.s.toInt,.int .i64 x.k.toInt,.int .u64 x.t.toNat,.int .u64 x.v.toNat,.int .i64 x.x.toInt] 37)=w0 at *;have eH:w.heap.size<w0.heap.size:=aB aL;refine(ada.out w0 kL).mono ?_;rintro e w1⟨rfl,hu1⟩;have adb:=aH hu1 aL;have cj:=ao6.trans hu1;have hz:=bp w1 (.cells #[.int .i64 0,.int .i64 0,.int .u64 0,.int .u64 0,.int .i64 0] 37);have aQ:=(aoV.refl w1).alloc (.cells #[.int .i64 0,.int .i64 0,.int .u64 0,.int .u64 0,.int .i64 0] 37);have tG:w1.heap.size<=w1.heap.size:=aZ _
 clear aL kL hr;have Y':=λW=>Ws t x W
 generalize w.heap.size=br at *;generalize pJ:w1.alloc (.cells #[.int .i64 0,.int .i64 0,.int .u64 0,.int .u64 0,.int .i64 0] 37)=w2 at *;generalize ex:w1.heap.size=g2 at *;have Za:=aoU pJ;have yn:=aoU ex;have ap1:=aoU Y';clear pJ ex Y';cases q
 .have hf:mB l x=false:=by rw[dr.out];rfl
  have dz:=aoU hf;clear hf dr;go_wp2_with (first
   |(
    with_reducible show wpList _ _ _ (⟨none,.store 37 _ _,_,_,_,none⟩::_) _ _
    rw[Za.out,yn.out];go_loud (refine IG rfl _ _ rfl (g:=g2) (z0:= .int .i64 t.s.toInt) (iS:= .int .i64 t.k.toInt) (z2:= .int .u64 t.t.toNat) (z3:= .int .u64 t.v.toNat) (z4:= .int .i64 t.x.toInt) (by kernel_rfl) (by kernel_rfl) hz (by simp[Value.oneCell']) ?_)
    intro ai hgd dF;have nT:=gy.up aQ dF (by rw[yn.out];exact aZ _);clear dF))
  go_ret;rw[dz.out];exact⟨rfl,cj.trans nT⟩
 .have hf:mB l x=ti t x:=by rw[dr.out];rfl
  have dz:=aoU hf;clear hf dr;go_wp2_with (first
   |(
    with_reducible show wpList _ _ _ (⟨none,.store 37 _ _,_,_,_,none⟩::_) _ _
    rw[Za.out,yn.out];go_loud (refine IG rfl _ _ rfl (g:=g2) (z0:= .int .i64 t.s.toInt) (iS:= .int .i64 t.k.toInt) (z2:= .int .u64 t.t.toNat) (z3:= .int .u64 t.v.toNat) (z4:= .int .i64 t.x.toInt) (by kernel_rfl) (by kernel_rfl) hz (by simp[Value.oneCell']) ?_)
    intro ai hgd dF;have nT:=gy.up aQ dF (by rw[yn.out];exact aZ _);have ade:=aH nT adb;clear dF;obtain⟨e0,e1,e2,bG,bT⟩:=rK hgd;have f0:=ay hgd 0;have f1:=ay hgd 1;have f2:=ay hgd 2;have f3:=ay hgd 3;have f4:=ay hgd 4;simp only[List.getElem?_toArray,List.getElem?_cons_zero,List.getElem?_cons_succ] at e0 e1 e2 bG bT;obtain⟨d0,d1,d2,d3,d4⟩:=rK ade))
  refine(ap1.out ai).mono ?_;rintro e cH⟨rfl,eZ⟩;go_wp2_with fail;go_ret;rw[dz.out];exact⟨rfl,(cj.trans nT).trans eZ⟩
end
end Go.Proofs.YtfghplfgndppfaaGreatDoor
