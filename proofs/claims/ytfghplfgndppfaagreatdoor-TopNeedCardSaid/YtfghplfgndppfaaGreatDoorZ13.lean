/- Texts of this claim, joined: EditW18, TpL1, TpL2, TpL3, TpL4, TpL5. -/
import Derived.Test.YtfghplfgndppfaaGreatDoorZ12
set_option linter.unusedVariables false
set_option linter.unusedSimpArgs false
set_option maxRecDepth 100000
set_option maxHeartbeats 8000000
namespace Go.Proofs.YtfghplfgndppfaaGreatDoor
open Go.Proofs.Tryz
section
open Go.RowKit
theorem qs{X:Nat->Prop}{a b c:World}(h:V.af X a b)(k:V.af X b c):V.af X a c:=
 ⟨k.os.trans h.os,k.tape.trans h.tape,k.output.trans h.output,bQ h.size k.size,λj hj hx=>(k.block j (cg hj h.size) hx).trans (h.block j hj hx)⟩
theorem s0{w w':World}{g:Nat}{o:Obj}(hu:aoV w w')(h:w.heap[g]?=some o):w'.heap[g]?=some o:=(fP hu h)
def JJ(v:oy)(e:Jw):Option oy:=tB v.1 v.2.1 v.2.2.1 v.2.2.2.1 v.2.2.2.2.1 v.2.2.2.2.2 e.1 e.2.1 e.2.2.1 e.2.2.2.1 e.2.2.2.2.1 e.2.2.2.2.2.1 e.2.2.2.2.2.2
def vL(v:oy)(k:Nat)(b:List UInt8):Option oy:=if k=6 then(pi b).bind (JJ v) else none
theorem agT{bs:List UInt8}{x:Jw}(h:pi bs=some x):x.1.length<=40/\x.2.1.length<=40:=by
 unfold pi at h;simp only[] at h;split at h
 .rename_i hc;injection h with h;subst h;have hm:=hc.2.2.2;unfold rx at hm;simp only[ij,decide_eq_true_eq] at hm;obtain⟨h1,h2,-⟩:=hm;exact⟨h1,h2⟩
 .cases h
def v0:oy:=(0,[],0,0,0,0)
def DH(bs:List UInt8):Option (oy×Nat×Nat):=
 if ((li bs).2.2.2≠0/\(li bs).2.2.2≠4)\/(li bs).2.1.length=0 then none
 else(ro vL v0 (li bs).1 (li bs).2.1).map λv=>(v,(li bs).2.1.length,(li bs).2.2.1)
def vcs(v:oy)(A:Option Addr)(n c:Nat):Array Value:= #[.int .i64 v.1,.slice A n c,.int .u64 v.2.2.1,.int .u64 v.2.2.2.1,.int .u64 v.2.2.2.2.1,.int .u64 v.2.2.2.2.2]
def agU(r:Option (oy×Nat×Nat))(w:World)(e:Ending)(w':World):Prop:=
 match r with
 |none=>e= .returned (.tuple #[.agg #[.int .i64 0,.slice none 0 0,.int .u64 0,.int .u64 0,.int .u64 0,.int .u64 0],.int .i64 0,.int .i64 0,.int .i64 9])/\aoV w w'
 |some x=>∃R rn rc,e= .returned (.tuple #[.agg (vcs x.1 R rn rc),.int .i64 x.2.1,.int .i64 x.2.2,.int .i64 0])/\Rd w' w'.heap.size 2 R rn (dR x.1.2.1)/\rn<=rc/\rn<=40/\aoV w w'/\∀a,R=some a->w.heap.size<a.block
structure JK(g:Nat)(v:oy)(A:Option Addr)(n c:Nat)(W:World):Prop where
 blk:W.heap[g]?=some (.cells (vcs v A n c) 202 (0,0))
 rd:Rd W W.heap.size 2 A n (dR v.2.1)
 apl:n<=c
 le:n<=40
 ne:∀a,A=some a->g<a.block
theorem JK.up{g:Nat}{v:oy}{A:Option Addr}{n c:Nat}{W W':World}(h:JK g v A n c W)(hu:aoV W W'):JK g v A n c W':=⟨s0 hu h.blk,h.rd.up hu,h.apl,h.le,h.ne⟩
theorem agV{am:Int}{l:List dM}{f ce at_ le:Nat}(h:wU am l f ce at_ le=true):l.length<=40:=(acL am l f ce at_ le).1 h |>.2.1
theorem agW{v u:oy}{e:Jw}(h:JJ v e=some u):u.2.1.length<=40:=by
 unfold JJ at h;obtain⟨am,l,f,ce,at_,le⟩:=v;obtain⟨ds,add,fm,cX,di,dB,dH⟩:=e;have h2:tB am l f ce at_ le ds add fm cX di dB dH=some u:=h;unfold tB at h2;split at h2
 .cases h2
 .split at h2
  .rename_i hv;injection h2 with h2;subst h2;exact agV hv
  .cases h2
theorem agX(
 A:Option Addr)(n c:Nat)(bs:List UInt8)(w:World)(hr:Rd w w.heap.size 1 A n (cu bs))(hn:n<=549755813888)(hnc:n<=c):
 Calls prog 155 #[.slice A n c] w (agU (DH bs) w):=by
 obtain⟨w1,hw1⟩:=bB (w.alloc (.cells #[.int .i64 0,.slice none 0 0,.int .u64 0,.int .u64 0,.int .u64 0,.int .u64 0] 202))
 have jH:aoV w w1:=by rw[hw1];exact(aoV.refl w).alloc _
 have hg1:w1.heap[w.heap.size]?=some (.cells #[.int .i64 0,.slice none 0 0,.int .u64 0,.int .u64 0,.int .u64 0,.int .u64 0] 202 (0,0)):=by rw[hw1];exact bp w _
 have kz:=hr.up jH;have fT:=aoU hw1;clear hw1 hr;have qX:bs.length=n:=kz.gO.symm;have hbody:=aa3 bs;have JL:=aa4 bs;have BI:DH bs=if ((li bs).2.2.2≠0/\(li bs).2.2.2≠4)\/(li bs).2.1.length=0 then none
  else(ro vL v0 (li bs).1 (li bs).2.1).map λv=>(v,(li bs).2.1.length,(li bs).2.2.1):=rfl
 have hsp:=WX A n c bs w1 kz hn hnc;obtain⟨ks,bd,fw,o9,hT⟩:∃a b c d,li bs=(a,b,c,d):=⟨_,_,_,_,rfl⟩
 rw[hT] at hbody JL BI hsp
 (try dsimp only at hbody JL BI hsp)
 rw[qX] at hbody JL;have NI:=aoU BI;have Dn:=aoU hsp;have SY:=aoU hbody;have my:=aoU JL;clear BI hsp hbody JL hT qX;go_enter func155,ntmps155
 go_wp2_with fail;rw[<- fT.out];clear fT;have tG:w.heap.size<=w.heap.size:=aZ _;generalize ex:w.heap.size=g2 at hg1|-;rw[ex] at tG;have tG:w.heap.size<=g2:=Nat.le_of_eq ex;clear ex;refine Dn.out.mono ?_;rintro e w2⟨K,kn,kc,R,rn,rc,ps,rfl,hK,hR,hP,aq⟩
 (try dsimp only at hK hR hP|-)
 have NJ:=s0 aq hg1;have jI:=jH.trans aq;have jW:rn=bd.length:=by have h:=hR.1;have h2:=congrArg List.length hP.1;rw[iZ] at h h2;omega
 have hkn:kn=ks.length:=by have h:=hK.1;unfold wO at h;rw[iZ] at h;omega
 have hkr:kn=rn:=by have:=my.out.1;omega
 have hrb:rn<=n+1:=by have:=my.out.2;omega
 subst hkr;have sw:=aoU jW;have DA:=aoU hkn;have hlt:=aB hg1;clear Dn jW hkn hg1 jH aq kz;by_cases yR:(o9≠0/\o9≠4)\/bd.length=0
 .have HZ:DH bs=none:=by rw[NI.out,if_pos yR]
  have rL:=aoU HZ;have NK:=sw.out;clear HZ NI SY my hP;by_cases hE:o9≠0/\o9≠4
  .have d1:((o9:Int) !=0)=true:=by rw[bne_iff_ne];omega
   have d2:((o9:Int) !=4)=true:=by rw[bne_iff_ne];omega
   clear yR NK hE;go_wp2_with (first
    |(
     with_reducible show wpList _ _ _ (⟨none,.store 202 _ _,_,_,_,none⟩::_) _ _
     refine nW rfl 202 _ _ rfl (g:=g2) (cells:= #[.int .i64 0,.slice none 0 0,.int .u64 0,.int .u64 0,.int .u64 0,.int .u64 0]) rfl (by kernel_rfl) NJ vy rfl (by simp[Value.oneCell']) ?_;intro ag hgd dF;have jb:=gy.up jI dF tG;clear dF))
   obtain⟨t0,t1,t2,t3,t4,t5⟩:=iQ hgd;refine dm (v:= .tuple #[.agg #[.int .i64 0,.slice none 0 0,.int .u64 0,.int .u64 0,.int .u64 0,.int .u64 0],.int .i64 0,.int .i64 0,.int .i64 9]) (by simp[results,results155,go_sem,t0,t1,t2,t3,t4,t5]) rfl ?_;rw[rL.out];exact⟨rfl,jb⟩
  .have hz:kn=0:=by rcases yR with h|h;exact absurd h hE;omega
   subst hz;clear yR NK;by_cases Ig:o9=0
   .have d1:((o9:Int) !=0)=false:=by rw[bne_eq_false_iff_eq];omega
    clear hE Ig;go_wp2_with (first
     |(
      with_reducible show wpList _ _ _ (⟨none,.store 202 _ _,_,_,_,none⟩::_) _ _
      refine nW rfl 202 _ _ rfl (g:=g2) (cells:= #[.int .i64 0,.slice none 0 0,.int .u64 0,.int .u64 0,.int .u64 0,.int .u64 0]) rfl (by kernel_rfl) NJ vy rfl (by simp[Value.oneCell']) ?_;intro ag hgd dF;have jb:=gy.up jI dF tG;clear dF))
    obtain⟨t0,t1,t2,t3,t4,t5⟩:=iQ hgd;refine dm (v:= .tuple #[.agg #[.int .i64 0,.slice none 0 0,.int .u64 0,.int .u64 0,.int .u64 0,.int .u64 0],.int .i64 0,.int .i64 0,.int .i64 9]) (by simp[results,results155,go_sem,t0,t1,t2,t3,t4,t5]) rfl ?_;rw[rL.out];exact⟨rfl,jb⟩
   .have d1:((o9:Int) !=0)=true:=by rw[bne_iff_ne];omega
    have d2:((o9:Int) !=4)=false:=by rw[bne_eq_false_iff_eq];omega
    clear hE Ig;go_wp2_with (first
     |(
      with_reducible show wpList _ _ _ (⟨none,.store 202 _ _,_,_,_,none⟩::_) _ _
      refine nW rfl 202 _ _ rfl (g:=g2) (cells:= #[.int .i64 0,.slice none 0 0,.int .u64 0,.int .u64 0,.int .u64 0,.int .u64 0]) rfl (by kernel_rfl) NJ vy rfl (by simp[Value.oneCell']) ?_;intro ag hgd dF;have jb:=gy.up jI dF tG;clear dF))
    obtain⟨t0,t1,t2,t3,t4,t5⟩:=iQ hgd;refine dm (v:= .tuple #[.agg #[.int .i64 0,.slice none 0 0,.int .u64 0,.int .u64 0,.int .u64 0,.int .u64 0],.int .i64 0,.int .i64 0,.int .i64 9]) (by simp[results,results155,go_sem,t0,t1,t2,t3,t4,t5]) rfl ?_;rw[rL.out];exact⟨rfl,jb⟩
 .have BI:=NI.out;rw[if_neg yR] at BI;have cd:=aoU BI;have NK:=sw.out;have ug:¬kn=0:=by omega
  have iU:((kn:Int)==0)=false:=by rw[beq_eq_false_iff_ne];omega
  have hd:(((o9:Int) !=0)=false)\/(((o9:Int) !=0)=true/\((o9:Int) !=4)=false):=by
   by_cases h0:o9=0
   .exact .inl (by rw[bne_eq_false_iff_eq];omega)
   .exact .inr ⟨by rw[bne_iff_ne];omega,by rw[bne_eq_false_iff_eq];omega⟩
  clear BI NI yR NK;go_upto_region 2 with fail
  go_cut[31] from 21 (λagY wc=>agY= .bool false/\wc=w2)
  case first=>
   rcases hd with d1|⟨d1,d2⟩
   .go_wp2_with fail;go_meet
    case rel=>exact⟨rfl,rfl⟩
   .go_wp2_with fail;go_meet
    case rel=>exact⟨rfl,rfl⟩
  obtain⟨rfl,rfl⟩:=hcut;go_wp2_with fail;generalize wc=CV at *;clear hd ug iU;go_loopw[4,35] (λev i wr=>∃(k:Nat)(v:oy)(uD:Option Addr)(n6 gF:Nat),i= .int .i64 k/\ev= .int .i64 fw/\k<=kn/\JK g2 v uD n6 gF wr/\Hid (ro vL v0 (ks.take k) (bd.take k)=some v)/\V.af (λg=>g=g2) CV wr) (λ_ i _=>kn-(intOf i).toNat)
  case atStart=>exact⟨0,v0,none,0,0,rfl,rfl,by omega,⟨NJ,Rd.empty,by omega,by omega,λa ha=>by cases ha⟩,rfl,V.af.refl _ _⟩
  case round=>
   obtain⟨k,v,uD,n6,gF,rfl,rfl,hk,hv,hfo,BJ⟩:=hrel;have Ga:=lK jI tG BJ;obtain⟨am,l,f,ce,at_,le⟩:=v;by_cases hkk:k<kn
   .have tr:=nh hK hlt BJ;have CN:=nh hR hlt BJ;have k1:k<bd.length:=by rw[<- sw.out];exact hkk
    have k2:k<ks.length:=by rw[<- DA.out];exact hkk
    have aY:k<ps.length:=by have h2:=congrArg List.length hP.1;rw[iZ] at h2;omega
    obtain⟨agZ,ag0,rfl,vF,HQ⟩:=(Rd.own tr).2 (by omega);obtain⟨ae1,ae2,rfl,anB,Je⟩:=(Rd.own CN).2 (by omega);have e1:=HQ k (.int .i64 (ks[k]:Int)) (by unfold wO;simp[k2]);have e2:=Je k ps[k].v (by rw[List.getElem?_map,dh aY];rfl);have ho:fG wr w1.heap.size ps[k].A ps[k].n ps[k].c ps[k].l:=nh (hP.2 ps[k] (List.getElem_mem _)) hlt BJ;have hl:ps[k].l=bd[k]:=by
     have h:=congrArg (λl=>l[k]?) hP.1;simp only[List.getElem?_map,dh aY,dh k1,Option.map_some] at h;injection h
    have qX:=SY.out bd[k] (List.getElem_mem _);have hst:ro vL v0 (ks.take (k+1)) (bd.take (k+1))=vL (am,l,f,ce,at_,le) ks[k] bd[k]:=by
     rw[lU k2,lU k1];exact aa0 vL (by simp;omega) hfo.out
    have hno:vL (am,l,f,ce,at_,le) ks[k] bd[k]=none->DH bs=none:=λh=>by
     rw[cd.out,aa1 vL (k+1) my.out.1 (hst.trans h)];rfl
    rw[hl] at ho;generalize ps[k]=vM at *;obtain⟨pA,oz,pc,pl⟩:=vM;simp only[lX.v] at e2 ho;generalize ks[k]=kk at *;generalize bd[k]=JM at *;have hrd:=ho.rd;have mX:=hrd.gO;have hpc:=sH ho;have nL:=aoU hno;have hG:=aoU hst;have hpb:oz<=549755813888:=by omega
    clear hno hst hl HQ Je k1 k2 aY tr CN ho qX mX;go_wp2_with fail;refine(agq pA oz pc JM wr hrd hpb hpc).mono ?_;intro e w3 hq;have Bq:vL (am,l,f,ce,at_,le) kk JM=if kk=6 then(pi JM).bind (JJ (am,l,f,ce,at_,le)) else none:=rfl
    have zG:=aoU Bq;clear Bq;cases xr:pi JM with
    |none=>
     rw[xr] at hq;obtain⟨rfl,bV⟩:=hq;have hb:=nL.out (by rw[zG.out,xr];split <;>rfl);have rL:=aoU hb;have oE:=hv.up (bV.trans ((aoV.refl w3).alloc (.cells #[.slice none 0 0,.slice none 0 0,.int .i64 0,.int .u64 0,.int .u64 0,.int .u64 0,.int .u64 0] 174)));have sB:=Ga.trans (bV.trans ((aoV.refl w3).alloc (.cells #[.slice none 0 0,.slice none 0 0,.int .i64 0,.int .u64 0,.int .u64 0,.int .u64 0,.int .u64 0] 174)));clear hb xr hv Ga bV e1 e2 hrd;go_wp2_with (first
      |(
       with_reducible show wpList _ _ _ (⟨none,.store 202 _ _,_,_,_,none⟩::_) _ _
       refine nW rfl 202 _ _ rfl (g:=g2) (cells:= #[.int .i64 0,.slice none 0 0,.int .u64 0,.int .u64 0,.int .u64 0,.int .u64 0]) rfl (by kernel_rfl) oE.blk vy rfl (by simp[Value.oneCell']) ?_;intro ag hgd dF;have jb:=gy.up sB dF tG;clear dF))
     obtain⟨t0,t1,t2,t3,t4,t5⟩:=iQ hgd;refine dm (v:= .tuple #[.agg #[.int .i64 0,.slice none 0 0,.int .u64 0,.int .u64 0,.int .u64 0,.int .u64 0],.int .i64 0,.int .i64 0,.int .i64 9]) (by simp[results,results155,go_sem,t0,t1,t2,t3,t4,t5]) rfl ?_;rw[rL.out];exact⟨rfl,jb⟩
    |some x=>
     obtain⟨ds,add,fm,cX,di,dB,dH⟩:=x;rw[xr] at hq;obtain⟨D,b9,bX,kC,an,ac,rfl,hD,hdc,NL,hac,bV⟩:=hq
     (try dsimp only at hD NL)
     have aX:aoV w3 (w3.alloc (.cells #[.slice D b9 bX,.slice kC an ac,.int .i64 fm,.int .u64 cX,.int .u64 di,.int .u64 dB,.int .u64 dH] 174)):=(aoV.refl w3).alloc _;have oE:=hv.up (bV.trans aX);have sB:=Ga.trans (bV.trans aX);have e1:=((bV.trans aX).cell (p:=⟨agZ,ag0+k,none⟩) vF).trans e1;by_cases nx:kk=6
     .have d6:((kk:Int) !=6)=false:=by rw[bne_eq_false_iff_eq];omega
      have bJ:vL (am,l,f,ce,at_,le) kk JM=tB am l f ce at_ le ds add fm cX di dB dH:=by rw[zG.out,if_pos nx,xr];rfl
      have SZ:=aoU bJ;have BK:(w3.alloc (.cells #[.slice D b9 bX,.slice kC an ac,.int .i64 fm,.int .u64 cX,.int .u64 di,.int .u64 dB,.int .u64 dH] 174)).heap[w3.heap.size]?=some (.cells #[.slice D b9 bX,.slice kC an ac,.int .i64 fm,.int .u64 cX,.int .u64 di,.int .u64 dB,.int .u64 dH] 174 (0,0)):=bp w3 _;have Ta:=hD.up aX;have Tb:=NL.up aX;obtain⟨pF,hl2⟩:=agT xr
      (try dsimp only at pF hl2)
      clear bJ xr hv Ga e2 hrd hD NL nx;have t0:((w3.alloc (.cells #[.slice D b9 bX,.slice kC an ac,.int .i64 fm,.int .u64 cX,.int .u64 di,.int .u64 dB,.int .u64 dH] 174))).cell? ⟨g2,0,none⟩=some (.int .i64 am):=aoW oE.blk 0;have t1:((w3.alloc (.cells #[.slice D b9 bX,.slice kC an ac,.int .i64 fm,.int .u64 cX,.int .u64 di,.int .u64 dB,.int .u64 dH] 174))).cell? ⟨g2,1,none⟩=some (.slice uD n6 gF):=aoW oE.blk 1
      have t2:((w3.alloc (.cells #[.slice D b9 bX,.slice kC an ac,.int .i64 fm,.int .u64 cX,.int .u64 di,.int .u64 dB,.int .u64 dH] 174))).cell? ⟨g2,2,none⟩=some (.int .u64 f):=aoW oE.blk 2;have t3:((w3.alloc (.cells #[.slice D b9 bX,.slice kC an ac,.int .i64 fm,.int .u64 cX,.int .u64 di,.int .u64 dB,.int .u64 dH] 174))).cell? ⟨g2,3,none⟩=some (.int .u64 ce):=aoW oE.blk 3;have t4:((w3.alloc (.cells #[.slice D b9 bX,.slice kC an ac,.int .i64 fm,.int .u64 cX,.int .u64 di,.int .u64 dB,.int .u64 dH] 174))).cell? ⟨g2,4,none⟩=some (.int .u64 at_):=aoW oE.blk 4
      have t5:((w3.alloc (.cells #[.slice D b9 bX,.slice kC an ac,.int .i64 fm,.int .u64 cX,.int .u64 di,.int .u64 dB,.int .u64 dH] 174))).cell? ⟨g2,5,none⟩=some (.int .u64 le):=aoW oE.blk 5;have ny:(w3.alloc (.cells #[.slice D b9 bX,.slice kC an ac,.int .i64 fm,.int .u64 cX,.int .u64 di,.int .u64 dB,.int .u64 dH] 174)).cell? ⟨w3.heap.size,0,none⟩=some (.slice D b9 bX):=aoW BK 0
      have u1:(w3.alloc (.cells #[.slice D b9 bX,.slice kC an ac,.int .i64 fm,.int .u64 cX,.int .u64 di,.int .u64 dB,.int .u64 dH] 174)).cell? ⟨w3.heap.size,1,none⟩=some (.slice kC an ac):=aoW BK 1;have u2:(w3.alloc (.cells #[.slice D b9 bX,.slice kC an ac,.int .i64 fm,.int .u64 cX,.int .u64 di,.int .u64 dB,.int .u64 dH] 174)).cell? ⟨w3.heap.size,2,none⟩=some (.int .i64 fm):=aoW BK 2
      have u3:(w3.alloc (.cells #[.slice D b9 bX,.slice kC an ac,.int .i64 fm,.int .u64 cX,.int .u64 di,.int .u64 dB,.int .u64 dH] 174)).cell? ⟨w3.heap.size,3,none⟩=some (.int .u64 cX):=aoW BK 3;have u4:(w3.alloc (.cells #[.slice D b9 bX,.slice kC an ac,.int .i64 fm,.int .u64 cX,.int .u64 di,.int .u64 dB,.int .u64 dH] 174)).cell? ⟨w3.heap.size,4,none⟩=some (.int .u64 di):=aoW BK 4
      have uF:(w3.alloc (.cells #[.slice D b9 bX,.slice kC an ac,.int .i64 fm,.int .u64 cX,.int .u64 di,.int .u64 dB,.int .u64 dH] 174)).cell? ⟨w3.heap.size,5,none⟩=some (.int .u64 dB):=aoW BK 5;have uG:(w3.alloc (.cells #[.slice D b9 bX,.slice kC an ac,.int .i64 fm,.int .u64 cX,.int .u64 di,.int .u64 dB,.int .u64 dH] 174)).cell? ⟨w3.heap.size,6,none⟩=some (.int .u64 dH):=aoW BK 6;have uH:=bV.trans aX;go_wp2_with fail;clear t0 t1 t2 t3 t4 t5 ny u1 u2 u3 u4 uF uG BK e1 aX bV
      generalize (w3.alloc (.cells #[.slice D b9 bX,.slice kC an ac,.int .i64 fm,.int .u64 cX,.int .u64 di,.int .u64 dB,.int .u64 dH] 174))=w4 at *;generalize w3.heap.size=g3 at *;refine(XC am uD n6 gF l f ce at_ le D b9 bX ds kC an ac add fm cX di dB dH w4 oE.rd (by have:=oE.le;omega) Ta (by have:=Ta.1;rw[Fa] at this;omega) Tb (by have:=Tb.ly;omega)).mono ?_;intro e ai ha;cases hap:tB am l f ce at_ le ds add fm cX di dB dH with
      |none=>
       rw[hap] at ha;obtain⟨rfl,cI⟩:=ha;have hb:=nL.out (SZ.out.trans hap);have rL:=aoU hb;have yk:=oE.up (cI.trans ((aoV.refl ai).alloc (.cells #[.int .i64 0,.slice none 0 0,.int .u64 0,.int .u64 0,.int .u64 0,.int .u64 0] 202)));have nT:=sB.trans (cI.trans ((aoV.refl ai).alloc (.cells #[.int .i64 0,.slice none 0 0,.int .u64 0,.int .u64 0,.int .u64 0,.int .u64 0] 202)));clear hb hap oE sB cI;go_wp2_with (first
        |(
         with_reducible show wpList _ _ _ (⟨none,.store 202 _ _,_,_,_,none⟩::_) _ _
         refine nW rfl 202 _ _ rfl (g:=g2) (cells:= #[.int .i64 0,.slice none 0 0,.int .u64 0,.int .u64 0,.int .u64 0,.int .u64 0]) rfl (by kernel_rfl) yk.blk vy rfl (by simp[Value.oneCell']) ?_;intro ag hgd dF;have jb:=gy.up nT dF tG;clear dF))
       obtain⟨t0,t1,t2,t3,t4,t5⟩:=iQ hgd;refine dm (v:= .tuple #[.agg #[.int .i64 0,.slice none 0 0,.int .u64 0,.int .u64 0,.int .u64 0,.int .u64 0],.int .i64 0,.int .i64 0,.int .i64 9]) (by simp[results,results155,go_sem,t0,t1,t2,t3,t4,t5]) rfl ?_;rw[rL.out];exact⟨rfl,jb⟩
      |some u=>
       have hlen:u.2.1.length<=40:=agW (v:=(am,l,f,ce,at_,le)) (e:=(ds,add,fm,cX,di,dB,dH)) hap;rw[hap] at ha;obtain⟨pa,vN,rfl,Tc,cI,hfr⟩:=ha;have hs2:=hG.out.trans (SZ.out.trans hap);have jo:=aoU hs2;obtain⟨Gb,ul,Gc,Gd,Ge,ule⟩:=u
       (try dsimp only at Tc hlen|-)
       obtain⟨cH,NN⟩:=bB (ai.alloc (.cells #[.int .i64 Gb,.slice pa vN vN,.int .u64 Gc,.int .u64 Gd,.int .u64 Ge,.int .u64 ule] 202))
       have JN:aoV ai cH:=by rw[NN];exact(aoV.refl ai).alloc _
       have sY:cH.heap[ai.heap.size]?=some (.cells #[.int .i64 Gb,.slice pa vN vN,.int .u64 Gc,.int .u64 Gd,.int .u64 Ge,.int .u64 ule] 202 (0,0)):=by rw[NN];exact bp ai _
       have iq:=oE.up (cI.trans JN);have rY:=sB.trans (cI.trans JN);have ag1:=uH.trans (cI.trans JN);have s5:=Tc.up JN;have eG:g2<w4.heap.size:=aB oE.blk;have JO:∀a,pa=some a->g2<a.block:=λa ha=>by have:=hfr a ha;omega
       have q0:cH.cell? ⟨ai.heap.size,0,none⟩=some (.int .i64 Gb):=aoW sY 0;have q1:cH.cell? ⟨ai.heap.size,1,none⟩=some (.slice pa vN vN):=aoW sY 1;have cP:cH.cell? ⟨ai.heap.size,2,none⟩=some (.int .u64 Gc):=aoW sY 2;have dQ:cH.cell? ⟨ai.heap.size,3,none⟩=some (.int .u64 Gd):=aoW sY 3;have eX:cH.cell? ⟨ai.heap.size,4,none⟩=some (.int .u64 Ge):=aoW sY 4;have fM:cH.cell? ⟨ai.heap.size,5,none⟩=some (.int .u64 ule):=aoW sY 5;have ag2:=aoU NN;clear NN sY JN oE Tc hfr hap hs2 Ta Tb nL zG SZ;go_wp2_with (first
        |(
         with_reducible show wpList _ _ _ (⟨none,.store 202 _ _,_,_,_,none⟩::_) _ _
         rw[<- ag2.out];refine nW rfl 202 _ _ rfl (g:=g2) (cells:= #[.int .i64 Gb,.slice pa vN vN,.int .u64 Gc,.int .u64 Gd,.int .u64 Ge,.int .u64 ule]) rfl (by kernel_rfl) iq.blk vy rfl (by simp[Value.oneCell']) ?_;intro ag hgd dF))
       have qw:JK g2 (Gb,ul,Gc,Gd,Ge,ule) pa vN vN ag:=⟨hgd,Rd.YL s5 (aZ _) (λa ha=>by have:=JO a ha;omega) dF,aZ _,by have:=s5.ly;omega,JO⟩
       have kK:V.af (λg=>g=g2) CV ag:=qs BJ (qs (V.af.co ag1) dF);go_roundw
       case rel=>exact⟨k+1,(Gb,ul,Gc,Gd,Ge,ule),pa,vN,vN,by go_num,rfl,by omega,qw,jo.out,kK⟩
       case measure=>simp[intOf] <;>omega
     .have d6:((kk:Int) !=6)=true:=by rw[bne_iff_ne];omega
      have hb:=nL.out (by rw[zG.out,if_neg nx]);have rL:=aoU hb;clear hb xr hv Ga bV e2 hrd hD NL nx;go_wp2_with (first
       |(
        with_reducible show wpList _ _ _ (⟨none,.store 202 _ _,_,_,_,none⟩::_) _ _
        refine nW rfl 202 _ _ rfl (g:=g2) (cells:= #[.int .i64 0,.slice none 0 0,.int .u64 0,.int .u64 0,.int .u64 0,.int .u64 0]) rfl (by kernel_rfl) oE.blk vy rfl (by simp[Value.oneCell']) ?_;intro ag hgd dF;have jb:=gy.up sB dF tG;clear dF))
      obtain⟨t0,t1,t2,t3,t4,t5⟩:=iQ hgd;refine dm (v:= .tuple #[.agg #[.int .i64 0,.slice none 0 0,.int .u64 0,.int .u64 0,.int .u64 0,.int .u64 0],.int .i64 0,.int .i64 0,.int .i64 9]) (by simp[results,results155,go_sem,t0,t1,t2,t3,t4,t5]) rfl ?_;rw[rL.out];exact⟨rfl,jb⟩
   .have V0:k=kn:=by omega
    subst V0;have gV:ro vL v0 ks bd=some (am,l,f,ce,at_,le):=by
     have h:=hfo.out;rw[lV (by have:=DA.out;omega),lV (by have:=sw.out;omega)] at h;exact h
    have hres:DH bs=some ((am,l,f,ce,at_,le),k,fw):=by rw[cd.out,gV,<- sw.out];rfl
    have zJ:=aoU hres;have hcells:wr.heap[g2]?=some (.cells #[.int .i64 am,.slice uD n6 gF,.int .u64 f,.int .u64 ce,.int .u64 at_,.int .u64 le] 202 (0,0)):=hv.blk;have ag3:=hv.apl;have ag4:=hv.le;have ag5:=hv.rd;have JO:=hv.ne;clear gV hres hfo BJ cd SY my sw DA;have t0:(wr).cell? ⟨g2,0,none⟩=some (.int .i64 am):=aoW hcells 0;have t1:(wr).cell? ⟨g2,1,none⟩=some (.slice uD n6 gF):=aoW hcells 1;have t2:(wr).cell? ⟨g2,2,none⟩=some (.int .u64 f):=aoW hcells 2;have t3:(wr).cell? ⟨g2,3,none⟩=some (.int .u64 ce):=aoW hcells 3
    have t4:(wr).cell? ⟨g2,4,none⟩=some (.int .u64 at_):=aoW hcells 4;have t5:(wr).cell? ⟨g2,5,none⟩=some (.int .u64 le):=aoW hcells 5;go_wp2_with (first
     |(
      with_reducible show wpList _ _ _ (⟨none,.store 202 _ _,_,_,_,none⟩::_) _ _
      refine nW rfl 202 _ _ rfl (g:=g2) (cells:= #[.int .i64 am,.slice uD n6 gF,.int .u64 f,.int .u64 ce,.int .u64 at_,.int .u64 le]) rfl (by kernel_rfl) hcells vy rfl (by simp[Value.oneCell']) ?_;intro ag hgd dF))
    clear t0 t1 t2 t3 t4 t5;have jb:=gy.up Ga dF tG;have t0:(ag).cell? ⟨g2,0,none⟩=some (.int .i64 am):=aoW hgd 0;have t1:(ag).cell? ⟨g2,1,none⟩=some (.slice uD n6 gF):=aoW hgd 1;have t2:(ag).cell? ⟨g2,2,none⟩=some (.int .u64 f):=aoW hgd 2;have t3:(ag).cell? ⟨g2,3,none⟩=some (.int .u64 ce):=aoW hgd 3;have t4:(ag).cell? ⟨g2,4,none⟩=some (.int .u64 at_):=aoW hgd 4;have t5:(ag).cell? ⟨g2,5,none⟩=some (.int .u64 le):=aoW hgd 5
    refine dm (v:= .tuple #[.agg #[.int .i64 am,.slice uD n6 gF,.int .u64 f,.int .u64 ce,.int .u64 at_,.int .u64 le],.int .i64 k,.int .i64 fw,.int .i64 0]) (by simp[results,results155,go_sem,t0,t1,t2,t3,t4,t5]) rfl ?_;rw[zJ.out];exact⟨uD,n6,gF,rfl,Rd.YL ag5 (aZ _) (λa ha=>by have:=JO a ha;omega) dF,ag3,ag4,jb,λa ha=>by have:=JO a ha;omega⟩
end
section
structure BL(x:aC):Prop where
 ok:okB x=true
 k:x.k=2
section
variable{x:aC}(h:BL x)
include h
theorem NV:fR x x=false:=by
 have _u:=h;unfold fR Hx;simp
theorem D4:xX x x=true:=by
 rw[Mm];exact⟨NV h,NV h⟩
theorem D5:CJ x x=false:=by
 have _u:=h;unfold CJ LP;simp
theorem eu:ti x x=false:=by
 have h2:x.k.toInt=2:=by rw[h.k];rfl
 unfold ti LQ;simp[h2]
theorem ahE:fR x (pK x.s)=false/\xX x (pK x.s)=false:=by
 have h2:x.k.toInt=2:=by rw[h.k];rfl
 have h3:(1:Int64).toInt=1:=rfl;have a:fR x (pK x.s)=false:=by
  rw[<- Bool.not_eq_true,zh];simp only[pK,h2,h3];omega
 refine⟨a,?_⟩;rw[<- Bool.not_eq_true,Mm];rintro⟨-,b⟩;rw[<- Bool.not_eq_true,zh] at b;apply b;refine .inr ⟨rfl,.inl ?_⟩;show(1:Int64).toInt<x.k.toInt;rw[h2];decide
theorem qa:mB [] x=false:=by
 have _u:=h;unfold mB uk kD;rfl
theorem ahF:mB [x] x=false:=by
 obtain⟨a,b⟩:=ahE h;have e:eY [x] (pK x.s)=0:=by simp[eY,List.findIdx_cons,a]
 have e2:kD [x] (pK x.s)=false:=by unfold kD;rw[e];simp[b]
 unfold mB uk;rw[e2];rfl
theorem ahG:dE [] x= [x]:=by
 have e:kD [] x=false:=by unfold kD;rfl
 unfold dE;rw[h.ok,qa h,e];simp[eu h]
theorem ahH:dE [x] x= [x]:=by
 have e:eY [x] x=0:=by simp[eY,List.findIdx_cons,NV h]
 have e2:kD [x] x=true:=by unfold kD;rw[e];simp[D4 h]
 unfold dE;rw[h.ok,ahF h,e2,e];simp[D5 h]
theorem X4:AP [x]=true:=by
 show pL [x] 1=true;unfold pL;simp[h.ok,qa h]
end
theorem u0:AP []=true:=rfl
def gB(x:aC)(b:Bool):List aC:=if b=true then [x] else []
theorem NW{x:aC}(h:BL x)(a b:Bool):jk (gB x a) (gB x b)=gB x (a||b):=by
 cases a <;>cases b <;>simp[jk,gB,u0,X4 h,ahG h,ahH h]
theorem Sm(x:aC)(b:Bool):rq (gB x b) x.s=gB x b:=by
 cases b <;>simp[rq,gB]
inductive nA where
 |put (i:Nat)
 |done (i:Nat)
 |ask (i:Nat)
 |got (i:Nat) (b:Bool)
deriving DecidableEq
structure BM where
 put:Bool
 cnt:List Bool
 count:Nat
 cW:List Bool
deriving DecidableEq
structure ao9 where
 up:List Bool
 has:List Bool
 net:List nA
 eE:Option BM
 cZ:List (Option Bool)
deriving DecidableEq
structure qK where
 n:Nat
 g:Nat
 t:Nat
def gA(P:qK):nA->Nat
 |.put i=>i
 |.done _=>0
 |.ask i=>i
 |.got _ _=>P.g
def sC:nA->Nat
 |.put i=>i
 |.done i=>i
 |.ask i=>i
 |.got i _=>i
def lp(P:qK):Option BM->nA->Option BM×List (Option Bool)
 |some j,.done i=>if j.put=true/\j.cnt.getD i false=false then(if j.count+1=jx P.n then(none,[none]) else(some { j with cnt:=j.cnt.set i true,count:=j.count+1 },[])) else(some j,[])
 |some j,.got i b=>if j.put=false/\j.cnt.getD i false=false then(if j.count+1=jx P.n then(none,[some ((j.cW++[b]).any id)]) else(some { j with cnt:=j.cnt.set i true,count:=j.count+1,cW:=j.cW++[b] },[])) else(some j,[])
 |j,_=>(j,[])
def uJ(s:ao9):nA->List nA
 |.put i=> [.done i]
 |.ask i=> [.got i (s.has.getD i false)]
 |_=> []
def apA(s:ao9):nA->List Bool
 |.put i=>s.has.set i true
 |_=>s.has
def bx(P:qK)(s:ao9):nA->Bool
 |.put _=>true
 |m=>s.has.getD (gA P m) false
def lq(P:qK):Option BM->Nat
 |none=>0
 |some j=>if j.put=true then 0 else P.g
def NY(P:qK)(s:ao9):ao9:=
 match s.net with
 | []=>s
 |m::r=>
  if s.up.getD (gA P m) false=false then { s with net:=r }
  else
   let h:=if gA P m=lq P s.eE then lp P s.eE m else(s.eE,[])
   ⟨s.up,apA s m,r++uJ s m,h.1,s.cZ++h.2⟩
def NZ(s:ao9):nA->Bool
 |.put i=> !(s.has.getD i false)
 |_=>true
def DJ(P:qK):Nat->ao9->Option ao9
 |0,s=>none
 |k+1,s=>match s.net with
  |m::_=>if NZ s m=true then DJ P k (NY P s) else none
  | []=>if s.eE.isSome=true then none else some s
section
variable(P:qK)(x:aC)(aI:Nat)(bu:Int)
def fB:ol:=⟨1,aI,P.t,bu⟩
def km:ol:=⟨3,aI,0,0⟩
def dD:nA->eU
 |.put i=>⟨1,0,i,1,0,[x]⟩
 |.done i=>⟨2,i,0,1,0,[]⟩
 |.ask i=>⟨4,P.g,i,2,aI,[]⟩
 |.got i b=>⟨5,i,P.g,2,0,gB x b⟩
def dZ(j:BM):dT:=if j.put=true then⟨P.n,0,1,fB P aI bu,8,j.cnt,j.count,[],0,none⟩ else⟨P.n,P.g,2,km aI,0,j.cnt,j.count,j.cW.map (λb=>(0,gB x b)),0,none⟩
def Gi:Option Bool->rV
 |none=>⟨1,fB P aI bu,0,8,[]⟩
 |some b=>⟨2,km aI,0,0,gB x b⟩
structure BN(k i:Nat)(u h:Bool)(du:List dT)(d:bA):Prop where
 up:d.up=u
 bI:d.bI=gB x h
 ao:d.ao.aM=0/\d.ao.ce=0/\d.ao.a=0
 none:h=false->d.am= []/\d.nb=0
 nb:d.nb<=1
 am:d.am.length<=1000
 JX:i≠0->d.mn=fY/\d.ne=1/\d.ao.le=0
 mn:d.mn.length<=1000/\d.ne<=10
 cs:d.cs<=20+4*k
 jobs:d.jobs=if u=true then du else []
structure Rel(k:Nat)(s:ao9)(c:cr):Prop where
 len:c.aw.length=P.n/\s.up.length=P.n/\s.has.length=P.n
 aw:∀(i:Nat)(d:bA),c.aw[i]?=some d->BN x k i (s.up.getD i false) (s.has.getD i false) (if i=lq P s.eE then(s.eE.map (dZ P x aI bu)).toList else []) d
 net:c.net=s.net.map (dD P x aI)
 cZ:c.cZ=s.cZ.map (Gi P x aI bu)
 idx:∀m∈s.net,sC m<P.n
 N0:s.net.length<=10
 eE:∀j,s.eE=some j->j.cnt.length=7/\j.count+1<=jx P.n/\j.cW.length=(if j.put=true then 0 else j.count)
 jf:c.jf.length<=c.ids
structure DK:Prop where
 pm:0<P.n/\P.n<=7/\P.g<P.n
 Gj:BL x
 s:x.s=Int64.ofInt aI
 v:x.v.toNat=8
 aI:aI<=255
 b:(fh [x]).length<=900
end
section
variable{P:qK}{x:aC}{aI:Nat}{bu:Int}(hx:DK P x aI)
include hx
theorem BO(m:nA)(h:sC m<P.n):gT (dD P x aI m)=true:=by
 have ho:=hx.Gj.ok;obtain⟨p1,p2,p3⟩:=hx.pm;cases m with
 |put i=>
  have h:i<P.n:=h;simp[dD,gT,pM,ho,CO];omega
 |done i=>
  have h:i<P.n:=h;simp[dD,gT,pM];omega
 |ask i=>
  have h:i<P.n:=h;have:=hx.aI;simp[dD,gT,pM];omega
 |got i b=>
  have h:i<P.n:=h;cases b <;>simp[dD,gT,pM,gB,ho,CO] <;>omega
theorem JY(m:nA):(dD P x aI m).t=gA P m:=by
 have _u:=hx;cases m <;>rfl
theorem ahI(l:List Bool)(n:Nat):(l.map (λb=>((0:Nat),gB x b))).foldl (λm g=>max m g.1) n=n:=by
 have _u:=hx;induction l generalizing n with
 |nil=>rfl
 |cons b r ih=>simp[ih]
theorem ahJ(l:List Bool)(a:Bool):(l.map (λb=>((0:Nat),gB x b))).foldl (λout g=>jk out (if g.1<0 then g.2.filter (λy=>decide (0<y.v.toNat)) else g.2)) (gB x a)=gB x (a||l.any id):=by
 induction l generalizing a with
 |nil=>simp
 |cons b r ih=>
  rw[List.map_cons,List.foldl_cons];dsimp only;rw[if_neg (Nat.lt_irrefl 0),NW hx.Gj,ih (a||b)];simp[Bool.or_assoc]
theorem OO(c:dT)(l:List Bool)(h:c.cW=l.map (λb=>(0,gB x b)))(hs:c.c.s=aI):vj c=gB x (l.any id):=by
 have e:gB x false= []:=rfl;unfold vj;rw[h,ahI hx l 0,hs,<- hx.s];dsimp only;rw[<- e,ahJ hx l false,Bool.false_or,Sm]
theorem ahK(j:BM)(m:nA)(hm:gA P m=lq P (some j))(hi:sC m<P.n)(hj:j.cnt.length=7)(hg:j.put=true->j.cW= []):
 mj [dZ P x aI bu j] (dD P x aI m)=(((lp P (some j) m).1.map (dZ P x aI bu)).toList,(lp P (some j) m).2.map (Gi P x aI bu)):=by
 have hok:=BO hx m hi;obtain⟨pt,cnt,dA,cW⟩:=j;dsimp only at hj hg;cases m with
 |put i=>
  have e:gG (dZ P x aI bu ⟨pt,cnt,dA,cW⟩) (dD P x aI (.put i))=dZ P x aI bu ⟨pt,cnt,dA,cW⟩:=by
   unfold gG;cases pt <;>simp[dZ,dD,fB,km]
  unfold mj;simp only[List.map_cons,List.map_nil,e];cases pt <;>simp[dZ,lp]
 |ask i=>
  have e:gG (dZ P x aI bu ⟨pt,cnt,dA,cW⟩) (dD P x aI (.ask i))=dZ P x aI bu ⟨pt,cnt,dA,cW⟩:=by
   unfold gG;cases pt <;>simp[dZ,dD,fB,km]
  unfold mj;simp only[List.map_cons,List.map_nil,e];cases pt <;>simp[dZ,lp]
 |done i=>
  have hi:i<P.n:=hi;cases pt with
  |false=>
   have e:gG (dZ P x aI bu ⟨false,cnt,dA,cW⟩) (dD P x aI (.done i))=dZ P x aI bu ⟨false,cnt,dA,cW⟩:=by
    unfold gG rX;simp[dZ,dD,km]
   unfold mj;simp only[List.map_cons,List.map_nil,e];simp[dZ,lp]
  |true=>
   obtain rfl:=hg rfl;by_cases hc:cnt.getD i false=false
   .have hh:rX (dZ P x aI bu ⟨true,cnt,dA,[]⟩) (dD P x aI (.done i))=true:=by
     unfold rX;rw[hok];simp[dZ,dD,hi,hc] at hc|-
     exact hc
    have e:gG (dZ P x aI bu ⟨true,cnt,dA,[]⟩) (dD P x aI (.done i))=pN (dZ P x aI bu ⟨true,cnt,dA,[]⟩) i:=by
     unfold gG;rw[hh];simp[dZ,dD,fB]
    unfold mj;simp only[List.map_cons,List.map_nil,e];have jz:cnt[i]?.getD false=false:=by simpa using hc
    by_cases h3:dA+1=jx P.n
    .have xO:dA=P.n / 2:=by unfold jx at h3;omega
     subst xO;simp[pN,dZ,jx,lp,CS,Gi,fB,jz]
     exact OO hx _ [] rfl rfl
    .have xO:¬dA=P.n / 2:=by unfold jx at h3;omega
     simp[pN,dZ,jx,lp,jz,xO]
   .have jz:cnt[i]?.getD false=true:=by simpa using hc
    have hh:rX (dZ P x aI bu ⟨true,cnt,dA,[]⟩) (dD P x aI (.done i))=false:=by
     unfold rX;simp[dZ,dD,jz]
    have e:gG (dZ P x aI bu ⟨true,cnt,dA,[]⟩) (dD P x aI (.done i))=dZ P x aI bu ⟨true,cnt,dA,[]⟩:=by
     unfold gG;rw[if_pos hh]
    unfold mj;simp only[List.map_cons,List.map_nil,e];simp[dZ,lp,jz]
 |got i b=>
  have hi:i<P.n:=hi;cases pt with
  |true=>
   have e:gG (dZ P x aI bu ⟨true,cnt,dA,cW⟩) (dD P x aI (.got i b))=dZ P x aI bu ⟨true,cnt,dA,cW⟩:=by
    unfold gG rX;simp[dZ,dD,km]
   unfold mj;simp only[List.map_cons,List.map_nil,e];simp[dZ,lp]
  |false=>
   by_cases hc:cnt.getD i false=false
   .have jz:cnt[i]?.getD false=false:=by simpa using hc
    have hh:rX (dZ P x aI bu ⟨false,cnt,dA,cW⟩) (dD P x aI (.got i b))=true:=by
     unfold rX;rw[hok];simp[dZ,dD,hi,jz]
    have e:gG (dZ P x aI bu ⟨false,cnt,dA,cW⟩) (dD P x aI (.got i b))=pN { dZ P x aI bu ⟨false,cnt,dA,cW⟩ with cW:=(cW++[b]).map (λb=>(0,gB x b)) } i:=by
     unfold gG;rw[hh];simp[dZ,dD,km]
    unfold mj;simp only[List.map_cons,List.map_nil,e];by_cases h3:dA+1=jx P.n
    .have xO:dA=P.n / 2:=by unfold jx at h3;omega
     subst xO;have hit:∀c:dT,c.cW=(cW++[b]).map (λb=>(0,gB x b))->c.c.s=aI->vj c=gB x ((cW++[b]).any id):=λc h1 h2=>OO hx c _ h1 h2
     simp only[pN,dZ,jx,lp,CS,Gi,km,hc];simp
     rw[hit _ (by simp) rfl];simp[Gi,km]
    .have xO:¬dA=P.n / 2:=by unfold jx at h3;omega
     simp[pN,dZ,jx,lp,jz,xO]
   .have jz:cnt[i]?.getD false=true:=by simpa using hc
    have hh:rX (dZ P x aI bu ⟨false,cnt,dA,cW⟩) (dD P x aI (.got i b))=false:=by
     unfold rX;simp[dZ,dD,jz]
    have e:gG (dZ P x aI bu ⟨false,cnt,dA,cW⟩) (dD P x aI (.got i b))=dZ P x aI bu ⟨false,cnt,dA,cW⟩:=by
     unfold gG;rw[if_pos hh]
    unfold mj;simp only[List.map_cons,List.map_nil,e];simp[dZ,lp,jz]
theorem Ty(net:List eU)(m:eU)(h:gT m=true)(hl:net.length<300):A8 net m=net++[m]:=by
 have _u:=hx;unfold A8;rw[if_pos h,if_neg (by omega)]
theorem ahL(j:BM)(m:nA)(hj:j.cnt.length=7/\j.count+1<=jx P.n/\j.cW.length=(if j.put=true then 0 else j.count)):∀j',(lp P (some j) m).1=some j'->j'.cnt.length=7/\j'.count+1<=jx P.n/\j'.cW.length=(if j'.put=true then 0 else j'.count):=by
 have _u:=hx;obtain⟨pt,cnt,dA,cW⟩:=j;obtain⟨h1,h2,h3⟩:=hj;intro j' h;dsimp only at h1 h2 h3;cases m with
 |put i=>simp[lp] at h;subst h;exact⟨h1,h2,h3⟩
 |ask i=>simp[lp] at h;subst h;exact⟨h1,h2,h3⟩
 |done i=>
  unfold lp at h;dsimp only at h;split at h
  .rename_i hc;split at h
   .cases h
   .injection h with h;subst h;refine⟨by simpa using h1,by dsimp only;omega,?_⟩;dsimp only;rw[hc.1] at h3|-;exact h3
  .injection h with h;subst h;exact⟨h1,h2,h3⟩
 |got i b=>
  unfold lp at h;dsimp only at h;split at h
  .rename_i hc;split at h
   .cases h
   .injection h with h;subst h;refine⟨by simpa using h1,by dsimp only;omega,?_⟩;dsimp only;rw[hc.1] at h3|-;rw[dG,h3];rfl
  .injection h with h;subst h;exact⟨h1,h2,h3⟩
theorem sn(k:Nat)(s:ao9)(m:nA)(du:List dT)(d:bA)(bE:zm)(hi:sC m<P.n)(hr:BN x k (gA P m) true (s.has.getD (gA P m) false) du d):
 ∃d',jl (gA P m) { d with bE:=bE } (dD P x aI m)=(d',(uJ s m).map (dD P x aI))/\d'.jobs=du/\∀DL,BN x (k+1) (gA P m) true (bx P s m) DL { d' with jobs:=DL } :=by
 have hok:=BO hx m hi;obtain⟨r1,r2,r3,iK,ki,iV,apb,j5,anL,JZ⟩:=hr;rw[if_pos rfl] at JZ;have same:∀DL,BN x (k+1) (gA P m) true (s.has.getD (gA P m) false) DL { d with bE:=bE,jobs:=DL } :=λDL=>⟨r1,r2,r3,iK,ki,iV,apb,j5,by dsimp only;omega,by rw[if_pos rfl]⟩
 have hne:¬(gT (dD P x aI m)=false\/(dD P x aI m).t≠gA P m):=by
  rw[hok,JY hx];simp
 unfold jl;rw[if_neg hne];cases m with
 |done i=>exact⟨_,rfl,JZ,same⟩
 |got i b=>exact⟨_,rfl,JZ,same⟩
 |ask i=>
  refine⟨{ d with bE:=bE },?_,JZ,same⟩;rw[if_neg (by simp[dD]),if_pos (by simp[dD]),if_pos (by simpa[dD] using hx.aI)];simp only[dD,uJ,List.map_cons,List.map_nil,gA,r3.2.1,<- hx.s] at r2|-;rw[r2,Sm]
 |put i=>
  have hv:¬(((dD P x aI (.put i)).l.any λy=>decide (y.v.toNat<=d.ao.aM))=true):=by
   have h8:=hx.v;simp[dD,r3.1,h8]
  refine⟨Fg { d with bE:=bE } [x],?_,?_,λDL=>?_⟩
  .rw[if_pos (by simp[dD]),if_neg hv];rfl
  .unfold Fg;split <;>exact JZ
  .have hj:=NW hx.Gj (s.has.getD (gA P (.put i)) false) true;rw[Bool.or_true] at hj;have hj2:jk d.bI [x]= [x]:=by rw[r2];exact hj
   unfold Fg;dsimp only;rw[hj2];have hb:=hx.b;cases hh:s.has.getD (gA P (.put i)) false
   .rw[hh] at r2 iK;obtain⟨iS,z2⟩:=iK rfl;have hne:¬([x]=d.bI):=by rw[r2];simp[gB]
    rw[if_neg hne];exact⟨r1,rfl,r3,(λe=>by cases e),by dsimp only;omega,by dsimp only;rw[iS];simpa using (by omega:(fh [x]).length<=1000),apb,j5,by dsimp only;omega,by rw[if_pos rfl]⟩
   .rw[hh] at r2;rw[if_pos (by rw[r2];rfl)];exact⟨r1,r2,r3,(λe=>by cases e),ki,iV,apb,j5,by dsimp only;omega,by rw[if_pos rfl]⟩
theorem BN.later{k i:Nat}{u h:Bool}{du:List dT}{d:bA}(r:BN x k i u h du d):BN x (k+1) i u h du d:=have _u:=hx;⟨r.up,r.bI,r.ao,r.none,r.nb,r.am,r.JX,r.mn,by have:=r.cs;omega,r.jobs⟩
theorem ahM(s:ao9)(m:nA)(i:Nat):(if i=lq P (if gA P m=lq P s.eE then lp P s.eE m else(s.eE,[])).1 then((if gA P m=lq P s.eE then lp P s.eE m else(s.eE,[])).1.map (dZ P x aI bu)).toList else [])=(if i=lq P s.eE then((if gA P m=lq P s.eE then lp P s.eE m else(s.eE,[])).1.map (dZ P x aI bu)).toList else []):=by
 have _u:=hx;by_cases h0:gA P m=lq P s.eE
 .rw[if_pos h0];cases hj:s.eE with
  |none=>cases m <;>rfl
  |some j=>
   have hp:(lp P (some j) m).1=none\/lq P (lp P (some j) m).1=lq P (some j):=by
    cases m <;>simp only[lp] <;>(try split) <;>(try split) <;>simp[lq]
   rcases hp with hp|hp
   .rw[hp];simp
   .rw[hp]
 .rw[if_neg h0]
theorem Tz(s:ao9)(m:nA)(hi:sC m<P.n):∀a∈uJ s m,sC a<P.n:=by
 have _u:=hx;cases m <;>simp[uJ,sC] at hi|- <;>exact hi
theorem ahN{k:Nat}{s:ao9}{c:cr}(R:Rel P x aI bu k s c):Rel P x aI bu (k+1) (NY P s) (qx c):=by
 obtain⟨⟨l1,l2,l3⟩,hn,pU,lS,hidx,vP,sD,vQ⟩:=R;obtain⟨p1,p2,p3⟩:=hx.pm;unfold NY qx;rw[pU];cases hs:s.net with
 |nil=>
  exact⟨⟨l1,l2,l3⟩,λi d hd=>(hn i d hd).later hx,pU,lS,hidx,vP,sD,vQ⟩
 |cons m r=>
  have hi:sC m<P.n:=hidx m (by rw[hs];exact gN);have ht:gA P m<P.n:=by cases m <;>simp[gA,sC] at hi|- <;>omega
  have T3:∀y∈r,sC y<P.n:=λy hy=>hidx y (by rw[hs];exact kS _ hy)
  have hrl:r.length<=9:=by rw[hs,iu] at vP;omega
  obtain⟨d,hd⟩:∃d,c.aw[gA P m]?=some d:=⟨_,dh (by omega)⟩
  have hnd:=hn _ _ hd;rw[List.map_cons];dsimp only;rw[JY hx,hd];dsimp only;by_cases hu:s.up.getD (gA P m) false=false
  .rw[hu] at hnd;rw[if_pos hu,if_pos hnd.up];exact⟨⟨l1,l2,l3⟩,λi d hd=>(hn i d hd).later hx,rfl,lS,T3,by dsimp only;omega,sD,vQ⟩
  .have hu1:s.up.getD (gA P m) false=true:=by simpa using hu
   rw[hu1] at hnd;have ahO:¬d.up=false:=by rw[hnd.up];simp
   rw[if_neg hu,if_neg ahO];obtain⟨d',e1,e2,bG⟩:=sn hx k s m _ d (sd d.bE (dD P x aI m)) hi hnd;rw[e1];dsimp only;have hsend:kO (r.map (dD P x aI)) ((uJ s m).map (dD P x aI))=(r++uJ s m).map (dD P x aI):=by
    have h0:∀a∈uJ s m,gT (dD P x aI a)=true:=λa ha=>BO hx a (Tz hx s m hi a ha)
    have hl:(r.map (dD P x aI)).length<300:=by rw[iZ];omega
    cases m <;>simp only[uJ,List.map_cons,List.map_nil,kO,List.foldl_cons,List.foldl_nil,List.append_nil,kU]
    .exact Ty hx _ _ (h0 _ (by simp[uJ])) hl
    .exact Ty hx _ _ (h0 _ (by simp[uJ])) hl
   have IW:∀i,(apA s m).getD i false=if i=gA P m then bx P s m else s.has.getD i false:=λi=>by
    cases m with
    |put j=>
     show(s.has.set j true).getD i false=if i=j then true else s.has.getD i false
     have hj:j<s.has.length:=by rw[l3];exact hi
     by_cases e:i=j
     .subst e;simp[hj]
     .rw[if_neg e,oc,List.getElem?_set_ne (λh=>e h.symm),oc]
    |done j=>
     by_cases e:i=gA P (.done j)
     .rw[if_pos e,e];rfl
     .rw[if_neg e];rfl
    |ask j=>
     by_cases e:i=gA P (.ask j)
     .rw[if_pos e,e];rfl
     .rw[if_neg e];rfl
    |got j b=>
     by_cases e:i=gA P (.got j b)
     .rw[if_pos e,e];rfl
     .rw[if_neg e];rfl
   have hjl:(apA s m).length=P.n:=by cases m <;>simp[apA,l3]
   have hal:(uJ s m).length<=1:=by cases m <;>simp[uJ]
   have ahP:mj d'.jobs (dD P x aI m)=((if gA P m=lq P s.eE then(((if gA P m=lq P s.eE then lp P s.eE m else(s.eE,[])).1.map (dZ P x aI bu)).toList) else []),((if gA P m=lq P s.eE then lp P s.eE m else(s.eE,[])).2.map (Gi P x aI bu))):=by
    rw[e2];by_cases h0:gA P m=lq P s.eE
    .rw[if_pos h0,if_pos h0,if_pos h0];cases hj:s.eE with
     |none=>
      cases m <;>rfl
     |some j=>
      obtain⟨j1,j2,dL⟩:=sD j hj;exact ahK hx j m (by rw[h0,hj]) hi j1 (λe=>List.eq_nil_of_length_eq_zero (by rw[dL,if_pos e]))
    .rw[if_neg h0,if_neg h0,if_neg h0];rfl
   rw[ahP];dsimp only;refine⟨⟨by simpa using l1,l2,hjl⟩,λi d2 dw=>?_,hsend,?_,λy hy=>?_,?_,λj hj=>?_,vQ⟩
   .dsimp only at dw|-;rw[IW i,ahM hx s m i];by_cases e:i=gA P m
    .subst e;rw[nC (by omega)] at dw;injection dw with dw;subst dw;rw[if_pos rfl,hu1];exact bG _
    .rw[List.getElem?_set_ne (λh=>e h.symm)] at dw;rw[if_neg e];have h2:=(hn i d2 dw).later hx;by_cases h0:i=lq P s.eE
     .have mu:(if gA P m=lq P s.eE then lp P s.eE m else(s.eE,[]))=(s.eE,[]):=if_neg (λh=>e (h0.trans h.symm));rw[mu];exact h2
     .rw[if_neg h0] at h2|-;exact h2
   .dsimp only;rw[lS,kU]
   .dsimp only at hy;rcases List.mem_append.1 hy with hy|hy
    .exact T3 y hy
    .exact Tz hx s m hi y hy
   .dsimp only;rw[dG];omega
   .dsimp only at hj;by_cases h0:gA P m=lq P s.eE
    .rw[if_pos h0] at hj;cases hsj:s.eE with
     |none=>
      rw[hsj] at hj;cases m <;>cases hj
     |some LR=>
      rw[hsj] at hj;exact ahL hx LR m (sD LR hsj) j hj
    .rw[if_neg h0] at hj;exact sD j hj
end
structure Gk(i:Nat)(j:dT)(m:eU):Prop where
 fin:j.fin=none
 at_:j.at_=i
 n:j.n<=7/\m.f<j.n
 cnt:j.cnt.length=7/\j.count<=1000/\j.cW.length<=1000
 how:m.id≠j.id\/j.cnt.getD m.f false=true\/(j.c.kind=3/\m.k=4\/j.c.kind≠3/\m.k=1)\/(j.c.kind≠3/\m.k=2)\/(j.c.kind=3/\m.k=5)
 bI:∃x:aC,BL x/\j.c.s<=255/\(∀g∈j.cW,g.1=0/\∃b,g.2=gB x b)/\j.cW.length<=6/\(m.k=5->m.n=0/\∃b,m.l=gB x b)
structure J0(d:bA):Prop where
 bI:d.bI.length<=1000
 am:d.am.length<=10000
 mn:d.mn.length<=10000
 ne:d.ne<=1000
 cs:d.cs<=100000
structure TB(d:bA)(m:eU):Prop where
 ok:J0 d
 how:(m.k=2\/m.k=5)\/(m.k=4/\m.n<=255)\/(m.k=1/\∃x:aC,m.l= [x]/\BL x/\d.bI= []/\d.nb=0/\d.ao.aM<x.v.toNat/\(fh [x]).length<=1000/\lh [x]=0)
structure TC(c:cr)(m:eU)(r:List eU)(d:bA):Prop where
 net:c.net=m::r
 N0:r.length<=200
 ok:gT m=true
 len:m.l.length<=1000
 nd:c.aw[m.t]?=some d
 hand:d.up=true->TB d m
 cZ:d.up=true->∀a∈(jl m.t { d with bE:=sd d.bE m } m).2,gT a=true
 eE:d.up=true->d.jobs= []\/∃j,d.jobs= [j]/\Gk m.t j m
structure zU(c:cr)(i:Nat)(q:ol)(d:bA):Prop where
 nd:c.aw[i]?=some d
 up:d.up=true
 n:c.aw.length<=7
 jobs:d.jobs= []
 J1:ya q=true
 x: -9223372036854775808<=q.x/\q.x<=9223372036854775807
 ok:J0 d
 ids:c.ids<=1000000
 jf:c.jf.length<=1000000
 ms:∀m∈rW (lM c.aw.length i (c.ids+1) q (if q.kind=3 then 0 else(lL i d).2)),gT m=true
 net:c.net.length<=200
 TD:q.kind=3\/q.kind=1/\d.bE.ls<=d.bE.aR/\d.bE.aR<=1000/\(d.ao.aM<=1000000/\d.ao.ce<=1000000/\d.ao.a<=1000000/\d.ao.le<=1000000)/\(kF { d.ao with le:=d.bE.aR+16 }).length<=5000
inductive uK:Nat->cr->cr->Prop where
 |stop {n:Nat} {c:cr} :c.net= []->IF c=false->uK (n+1) c c
 |step {n:Nat} {c c':cr} {m:eU} {r:List eU} {d:bA} :TC c m r d->uK n (qx c) c'->uK (n+1) c c'
section
variable{P:qK}{x:aC}{aI:Nat}{bu:Int}(hx:DK P x aI)
include hx
theorem N1(b:Bool):(gB x b).length<=1:=by
 have _u:=hx;cases b <;>simp[gB]
theorem ahQ{k:Nat}{s:ao9}{c:cr}{m:nA}{r:List nA}(R:Rel P x aI bu k s c)(hk:k<=10000)(hs:s.net=m::r)(hok:NZ s m=true)(hb:lh [x]=0):∃d,TC c (dD P x aI m) (r.map (dD P x aI)) d:=by
 obtain⟨⟨l1,l2,l3⟩,hn,pU,lS,hidx,vP,sD,vQ⟩:=R;obtain⟨p1,p2,p3⟩:=hx.pm;have hi:sC m<P.n:=hidx m (by rw[hs];exact gN);have ht:gA P m<P.n:=by cases m <;>simp[gA,sC] at hi|- <;>omega
 obtain⟨d,hd⟩:∃d,c.aw[gA P m]?=some d:=⟨_,dh (by omega)⟩
 have hr:=hn _ _ hd;refine⟨d,by rw[pU,hs];rfl,?_,BO hx m hi,?_,by rw[JY hx];exact hd,λhu=>?_,λhu a ha=>?_,λhu=>?_⟩
 .rw[hs,iu] at vP;rw[iZ];omega
 .cases m <;>simp[dD]
  have:=N1 hx ‹Bool›;omega
 .have hl:=N1 hx (s.has.getD (gA P m) false);refine⟨⟨by rw[hr.bI];omega,by have:=hr.am;omega,by have:=hr.mn;omega,by have:=hr.mn;omega,by have:=hr.cs;omega⟩,?_⟩;cases m with
  |done i=>exact .inl (.inl rfl)
  |got i b=>exact .inl (.inr rfl)
  |ask i=>exact .inr (.inl ⟨rfl,hx.aI⟩)
  |put i=>
   have h0:s.has.getD i false=false:=by simpa[NZ] using hok
   have il:BN x k i (s.up.getD i false) (s.has.getD i false) _ d:=hr;rw[h0] at il;refine .inr (.inr ⟨rfl,x,rfl,hx.Gj,il.bI,(il.none rfl).2,?_,by have:=hx.b;omega,hb⟩);rw[il.ao.1,hx.v];decide
 .have qL:s.up.getD (gA P m) false=true:=by rw[<- hr.up];exact hu
  have il:=hr;rw[qL] at il;obtain⟨d',e1,-⟩:=sn hx k s m _ d (sd d.bE (dD P x aI m)) hi il;rw[JY hx,e1] at ha;obtain⟨b,ao0,rfl⟩:=List.mem_map.1 ha;exact BO hx b (Tz hx s m hi b ao0)
 .have qL:s.up.getD (gA P m) false=true:=by rw[<- hr.up];exact hu
  have hj:=hr.jobs;rw[if_pos qL] at hj;by_cases h0:gA P m=lq P s.eE
  .rw[if_pos h0] at hj;cases hsj:s.eE with
   |none=>rw[hsj] at hj;exact .inl hj
   |some j=>
    rw[hsj] at hj h0;right
    refine⟨dZ P x aI bu j,hj,?_⟩;obtain⟨j1,j2,dL⟩:=sD j hsj;obtain⟨pt,cnt,dA,cW⟩:=j;dsimp only at j1 j2 dL;have hct:dA+1<=4:=by unfold jx at j2;omega
    rw[JY hx,h0];cases pt with
    |true=>
     have g0:cW= []:=List.eq_nil_of_length_eq_zero (by simpa using dL);subst g0;have tK:(dD P x aI m).k=5->(dD P x aI m).n=0/\∃b,(dD P x aI m).l=gB x b:=by
      cases m <;>simp only[dD] <;>intro h <;>first|(exfalso;omega)|exact⟨trivial,_,rfl⟩|exact⟨rfl,_,rfl⟩
     refine⟨rfl,rfl,⟨p2,?_⟩,⟨j1,by simp[dZ];omega,by simp[dZ]⟩,?_,x,hx.Gj,hx.aI,?_,by simp[dZ],tK⟩
     .cases m <;>simp[dD,dZ,sC] at hi|- <;>omega
     .cases m <;>simp[dD,dZ,fB]
     .intro g hg;simp[dZ] at hg
    |false=>
     have tu:cW.length=dA:=by simpa using dL
     have tK:(dD P x aI m).k=5->(dD P x aI m).n=0/\∃b,(dD P x aI m).l=gB x b:=by
      cases m <;>simp only[dD] <;>intro h <;>first|(exfalso;omega)|exact⟨trivial,_,rfl⟩|exact⟨rfl,_,rfl⟩
     refine⟨rfl,rfl,⟨p2,?_⟩,⟨j1,by simp[dZ];omega,by simp[dZ];omega⟩,?_,x,hx.Gj,hx.aI,?_,by simp[dZ];omega,tK⟩
     .cases m <;>simp[dD,dZ,sC] at hi|- <;>omega
     .cases m <;>simp[dD,dZ,km]
     .intro g hg;simp only[dZ,Bool.false_eq_true,if_false,List.mem_map] at hg;obtain⟨b,-,rfl⟩:=hg;exact⟨rfl,b,rfl⟩
  .rw[if_neg h0] at hj;exact .inl hj
theorem J3(hb:lh [x]=0):∀(n k:Nat)(s s':ao9)(c:cr),Rel P x aI bu k s c->k+n<=10000->DJ P n s=some s'->∃c' k',uK n c c'/\Rel P x aI bu k' s' c'/\k'<=k+n/\c'.ids=c.ids/\c'.aG=c.aG
 |0,k,s,s',c,R,hk,h=>by cases h
 |n+1,k,s,s',c,R,hk,h=>by
  unfold DJ at h;cases hs:s.net with
  |nil=>
   rw[hs] at h;dsimp only at h;by_cases hj:s.eE.isSome=true
   .rw[if_pos hj] at h;cases h
   .rw[if_neg hj] at h;injection h with h;subst h;have hjn:s.eE=none:=by simpa using hj
    refine⟨c,k,.stop (by rw[R.net,hs];rfl) ?_,R,by omega,rfl,rfl⟩;unfold IF;rw[List.any_eq_false];intro d hd;obtain⟨i,hi⟩:=List.getElem?_of_mem hd;have hr:=R.aw i d hi;have mu:=hr.jobs;rw[hjn] at mu;have e:d.jobs= []:=by
     rw[mu];split
     .split <;>rfl
     .rfl
    rw[e];simp
  |cons m r=>
   rw[hs] at h;dsimp only at h;by_cases hok:NZ s m=true
   .rw[if_pos hok] at h;obtain⟨d,hd⟩:=ahQ hx R (by omega) hs hok hb;obtain⟨c',k',h1,h2,h3,h4,h5⟩:=J3 hb n (k+1) (NY P s) s' (qx c) (ahN hx R) (by omega) h;have hi:(qx c).ids=c.ids/\(qx c).aG=c.aG:=by
     unfold qx;split;exact⟨rfl,rfl⟩
     .split;exact⟨rfl,rfl⟩
      .split;exact⟨rfl,rfl⟩;exact⟨rfl,rfl⟩
    exact⟨c',k',.step hd h1,h2,by omega,h4.trans hi.1,h5.trans hi.2⟩
   .rw[if_neg hok] at h;cases h
end
structure Lb(c:cr)(i:Nat)(d:bA):Prop where
 nd:c.aw[i]?=some d
 n:c.aw.length<=7
 how:d.up=true\/(d.bI= []/\d.ao=⟨0,0,0,0⟩/\d.am= []/\d.mn=fY/\d.nb=0/\d.ne=1)
def rF(n a b:Nat):List Bool:=(List.range n).map λi=> !(i==a||i==b)
def Cd(P:qK)(u:List Bool):ao9:=⟨u,List.replicate P.n false,(List.range P.n).map .put,some ⟨true,List.replicate 7 false,0,[]⟩,[]⟩
def Lc(P:qK)(u h:List Bool):ao9:=⟨u,h,(List.range P.n).map .ask,some ⟨false,List.replicate 7 false,0,[]⟩,[none]⟩
def rG:qK:=⟨5,0,8⟩
def qO:qK:=⟨3,2,2⟩
theorem alp:∀a∈ [1,2,3,4],∀b∈ [1,2,3,4],DJ rG 2000 (Cd rG (rF 5 a b))=some ⟨rF 5 a b,rF 5 a b,[],none,[none]⟩:=by decide
theorem run_get:∀a∈ [1,2,3,4],∀b∈ [1,2,3,4],∀x∈ [1,2,3,4],∀y∈ [1,2,3,4],DJ rG 2000 (Lc rG (rF 5 x y) (rF 5 a b))=some ⟨rF 5 x y,rF 5 a b,[],none,[none,some true]⟩:=by decide
theorem alq:DJ qO 100 (Cd qO [true,true,true])=some ⟨[true,true,true],[true,true,true],[],none,[none]⟩:=by decide
theorem alr:DJ qO 100 (Lc qO [true,true,true] [true,true,true])=some ⟨[true,true,true],[true,true,true],[],none,[none,some true]⟩:=by decide
section
variable{P:qK}{x:aC}{aI:Nat}{bu:Int}(hx:DK P x aI)
include hx
theorem Ve(n i:Nat)(v:Bool)(h:i<n):(List.replicate n v).getD i false=v:=by
 have _u:=hx;simp[h]
def Eh(P:qK):ao9:=⟨List.replicate P.n true,List.replicate P.n false,[],none,[]⟩
theorem HG(hm:fY.length<=1000)(gr:Nat):Rel P x aI bu 0 (Eh P) (fu P.n gr):=by
 refine⟨⟨by simp[fu],by simp[Eh],by simp[Eh]⟩,λi d hd=>?_,rfl,rfl,λm hm=>(by cases hm),by simp[Eh],λj hj=>(by cases hj),aZ _⟩;have hi:i<P.n:=by
  have:=(gM hd);simpa[fu] using this
 have e:d=nd0:=by
  obtain⟨h1,h2⟩:=List.getElem?_eq_some_iff.1 hd;rw[<- h2];simp[fu]
 subst e;have h1:(Eh P).up.getD i false=true:=Ve hx _ _ _ hi;have h2:(Eh P).has.getD i false=false:=Ve hx _ _ _ hi;rw[h1,h2];exact⟨rfl,rfl,⟨rfl,rfl,rfl⟩,λ_=>⟨rfl,rfl⟩,by decide,by decide,λ_=>⟨rfl,rfl,rfl⟩,⟨hm,by decide⟩,by decide,by split <;>first|rfl|(split <;>rfl)⟩
theorem O4(l:List Bool)(a i:Nat)(v:Bool)(ha:a<l.length):(l.set a v).getD i false=if i=a then v else l.getD i false:=by
 have _u:=hx;by_cases e:i=a
 .subst e;simp[ha]
 .rw[if_neg e,oc,List.getElem?_set_ne (λh=>e h.symm),oc]
theorem O5{k:Nat}{s:ao9}{c:cr}(R:Rel P x aI bu k s c)(a:Nat)(ha:a<P.n)(hj:s.eE=none):Rel P x aI bu k { s with up:=s.up.set a false } (fx c a):=by
 obtain⟨⟨l1,l2,l3⟩,hn,pU,lS,hidx,vP,sD,vQ⟩:=R;obtain⟨d,hd⟩:∃d,c.aw[a]?=some d:=⟨_,dh (by omega)⟩
 have hr:=hn a d hd;rw[hj] at hn hr;have mu:∀i:Nat,(if i=lq P none then(Option.map (dZ P x aI bu) none).toList else [])= []:=λi=>by split <;>rfl
 unfold fx;rw[hd];dsimp only;by_cases hu:d.up=true
 .rw[if_pos hu];refine⟨⟨by simpa using l1,by simpa using l2,l3⟩,λi d2 dw=>?_,pU,lS,hidx,vP,sD,vQ⟩;dsimp only at dw|-;rw[O4 hx _ _ _ _ (by omega),hj,mu];by_cases e:i=a
  .subst e;rw[nC (by omega)] at dw;injection dw with dw;subst dw;rw[if_pos rfl];exact⟨rfl,hr.bI,hr.ao,hr.none,hr.nb,hr.am,hr.JX,hr.mn,hr.cs,rfl⟩
  .rw[List.getElem?_set_ne (λh=>e h.symm)] at dw;rw[if_neg e];have:=hn i d2 dw;rw[mu] at this;exact this
 .rw[if_neg hu];have qL:s.up.getD a false=false:=by rw[<- hr.up];simpa using hu
  refine⟨⟨l1,by simpa using l2,l3⟩,λi d2 dw=>?_,pU,lS,hidx,vP,sD,vQ⟩;dsimp only;have:=hn i d2 dw;rw[O4 hx _ _ _ _ (by omega),hj];by_cases e:i=a
  .subst e;rw[if_pos rfl];rw[qL] at this;exact this
  .rw[if_neg e];exact this
theorem I5{k:Nat}{s:ao9}{c:cr}(R:Rel P x aI bu k s c)(a:Nat)(ha:a<P.n)(hj:s.eE=none):Rel P x aI bu k { s with up:=s.up.set a true } (fZ c a):=by
 obtain⟨⟨l1,l2,l3⟩,hn,pU,lS,hidx,vP,sD,vQ⟩:=R;obtain⟨d,hd⟩:∃d,c.aw[a]?=some d:=⟨_,dh (by omega)⟩
 have hr:=hn a d hd;rw[hj] at hn hr;have mu:∀i:Nat,(if i=lq P none then(Option.map (dZ P x aI bu) none).toList else [])= []:=λi=>by split <;>rfl
 unfold fZ;rw[hd];dsimp only;by_cases hu:d.up=true
 .rw[if_pos hu];have qL:s.up.getD a false=true:=by rw[<- hr.up];exact hu
  refine⟨⟨l1,by simpa using l2,l3⟩,λi d2 dw=>?_,pU,lS,hidx,vP,sD,vQ⟩;dsimp only;have:=hn i d2 dw;rw[O4 hx _ _ _ _ (by omega),hj];by_cases e:i=a
  .subst e;rw[if_pos rfl];rw[qL] at this;exact this
  .rw[if_neg e];exact this
 .rw[if_neg hu];refine⟨⟨by simpa using l1,by simpa using l2,l3⟩,λi d2 dw=>?_,pU,lS,hidx,vP,sD,vQ⟩;dsimp only at dw|-;rw[O4 hx _ _ _ _ (by omega),hj,mu];by_cases e:i=a
  .subst e;rw[nC (by omega)] at dw;injection dw with dw;subst dw;rw[if_pos rfl];exact⟨rfl,hr.bI,hr.ao,hr.none,hr.nb,hr.am,hr.JX,hr.mn,hr.cs,rfl⟩
  .rw[List.getElem?_set_ne (λh=>e h.symm)] at dw;rw[if_neg e];have:=hn i d2 dw;rw[mu] at this;exact this
theorem Ia{k:Nat}{s:ao9}{c:cr}(R:Rel P x aI bu k s c)(a:Nat)(ha:a<P.n)(ha0:a≠0)(hh:s.up.getD a false=true\/s.has.getD a false=false):∃d,Lb c a d:=by
 obtain⟨⟨l1,l2,l3⟩,hn,-⟩:=R;obtain⟨d,hd⟩:∃d,c.aw[a]?=some d:=⟨_,dh (by omega)⟩
 have hr:=hn a d hd;refine⟨d,hd,by rw[l1];exact hx.pm.2.1,?_⟩;rcases hh with hh|hh
 .exact .inl (hr.up.trans hh)
 .right
  obtain⟨m1,m2,m3⟩:=hr.JX ha0;obtain⟨e1,e2⟩:=hr.none hh;refine⟨by rw[hr.bI,hh];rfl,?_,e1,m1,e2,m2⟩;obtain⟨f1,f2,f3⟩:=hr.ao;obtain⟨ao,hme⟩:=bB d.ao
  rw[<- hme] at f1 f2 f3 m3|-;obtain⟨u1,u2,u3,u4⟩:=ao;dsimp only at f1 f2 f3 m3;subst f1 f2 f3 m3;rfl
theorem I4{c:cr}(a:Nat)(ha:a≠0):(fx c a).aw[0]?=c.aw[0]?:=by
 have _u:=hx;unfold fx;split;rfl
 .split;exact List.getElem?_set_ne ha;rfl
theorem GK{c:cr}(a:Nat):(fx c a).ids=c.ids/\(fx c a).aG=c.aG:=by
 have _u:=hx;unfold fx;split;exact⟨rfl,rfl⟩
 .split <;>exact⟨rfl,rfl⟩
theorem o7{c:cr}(a:Nat):(fZ c a).ids=c.ids/\(fZ c a).aG=c.aG:=by
 have _u:=hx;unfold fZ;split;exact⟨rfl,rfl⟩
 .split <;>exact⟨rfl,rfl⟩
theorem Z9(l:List nA):∀(net:List eU),net.length+l.length<=200->(∀m∈l,sC m<P.n)->kO net (l.map (dD P x aI))=net++l.map (dD P x aI):=by
 induction l with
 |nil=>intro net _ _;simp[kO]
 |cons m r ih=>
  intro net hl hm;rw[iu] at hl;have h1:=Ty hx net (dD P x aI m) (BO hx m (hm m gN)) (by omega);have h2:=ih (net++[dD P x aI m]) (by rw[dG,List.length_singleton];omega) (λy hy=>hm y (kS _ hy));unfold kO at h2|-;rw[List.map_cons,List.foldl_cons,h1,h2,jg];rfl
theorem als(hit:mR (fB P aI bu) 8=x)(net:List eU)(h:net.length<=100):kO net (rW (lM P.n 0 1 (fB P aI bu) 8))=net++((List.range P.n).map .put).map (dD P x aI):=by
 rw[<- Z9 hx ((List.range P.n).map .put) net (by rw[iZ,List.length_range];have:=hx.pm;omega) (λm hm=>?_)]
 .congr 1
  rw[List.map_map];unfold rW
  congr 1
  funext i
  have h3:¬(fB P aI bu).kind=3:=by simp[fB]
  simp only[lM,CQ,if_neg h3,hit,Function.comp_apply,dD]
 .obtain⟨i,hi,rfl⟩:=List.mem_map.1 hm;exact List.mem_range.1 hi
theorem aqa(net:List eU)(h:net.length<=100):kO net (rW (lM P.n P.g 2 (km aI) 0))=net++((List.range P.n).map .ask).map (dD P x aI):=by
 rw[<- Z9 hx ((List.range P.n).map .ask) net (by rw[iZ,List.length_range];have:=hx.pm;omega) (λm hm=>?_)]
 .congr 1
  rw[List.map_map];rfl
 .obtain⟨i,hi,rfl⟩:=List.mem_map.1 hm;exact List.mem_range.1 hi
theorem alu(hit:mR (fB P aI bu) 8=x)(ht:P.t<=1099511627776):ya (fB P aI bu)=true:=by
 have:=hx.aI;simp only[ya,fB,decide_eq_true_eq];exact⟨this,ht,.inl trivial⟩
theorem alv:ya (km aI)=true:=by
 have:=hx.aI;simp only[ya,km,decide_eq_true_eq];exact⟨this,by omega,.inr ⟨.inr trivial,trivial,trivial⟩⟩
theorem k7{c:cr}{u:List Bool}(R:Rel P x aI bu 0 ⟨u,List.replicate P.n false,[],none,[]⟩ c)(h0:c.aw[0]?=some nd0)(hu:u.getD 0 false=true)(hid:c.ids=0)(hm:fY.length<=100)(hm2:(kF ⟨0,0,0,16⟩).length<=900)(hit:mR (fB P aI bu) 8=x)(ht:P.t<=1099511627776)(hvl: -9223372036854775808<=bu/\bu<=9223372036854775807):
 zU c 0 (fB P aI bu) nd0/\(gH c 0 (fB P aI bu)).2=1/\Rel P x aI bu 1 (Cd P u) (gH c 0 (fB P aI bu)).1/\(gH c 0 (fB P aI bu)).1.ids=1/\(gH c 0 (fB P aI bu)).1.aG=c.aG:=by
 obtain⟨⟨l1,l2,l3⟩,hn,pU,lS,hidx,vP,sD,vQ⟩:=R;obtain⟨p1,p2,p3⟩:=hx.pm;have alw:(kF { nd0.ao with le:=nd0.bE.aR+16 }).length<=5000:=by
  show(kF ⟨0,0,0,16⟩).length<=5000;omega
 refine⟨⟨h0,rfl,by rw[l1];exact p2,rfl,alu hx hit ht,hvl,⟨by decide,by decide,by show fY.length<=_;omega,by decide,by decide⟩,by omega,by omega,λm hm=>?_,by rw[pU];simp,.inr ⟨rfl,by decide,by decide,by decide,alw⟩⟩,?_⟩
 .rw[l1,hid] at hm;obtain⟨j,hj,rfl⟩:=List.mem_map.1 hm;have h3:¬(fB P aI bu).kind=3:=by simp[fB]
  have hj:j<P.n:=List.mem_range.1 hj;have e:CQ (lM P.n 0 (0+1) (fB P aI bu) (if (fB P aI bu).kind=3 then 0 else(lL 0 nd0).2)) j=dD P x aI (.put j):=by
   rw[if_neg h3];show CQ (lM P.n 0 1 (fB P aI bu) 8) j=_;simp only[lM,CQ,if_neg h3,hit,dD]
  rw[e];exact BO hx _ hj
 have hv:lL 0 nd0=({ qy nd0 ⟨0,0,0,16⟩ with bE:=⟨1,16⟩ },8):=rfl;have h3:¬(fB P aI bu).kind=3:=by simp[fB]
 have Ce:c.net= []:=pU;have hc:gH c 0 (fB P aI bu)=({ c with aw:=c.aw.set 0 { qy nd0 ⟨0,0,0,16⟩ with bE:=⟨1,16⟩,jobs:= [lM P.n 0 1 (fB P aI bu) 8] },net:=((List.range P.n).map .put).map (dD P x aI),ids:=1,jf:=c.jf++[⟨1,fB P aI bu,0,8,[]⟩] },1):=by
  unfold gH;rw[h0];dsimp only;rw[if_neg h3,hv,hid,l1];dsimp only;have hs:=als hx hit c.net (by rw[Ce];simp);rw[Ce,gY] at hs;rw[show(0+1:Nat)=1 from rfl,Ce,hs];simp[qy,nd0]
 rw[hc];refine⟨rfl,⟨⟨by simpa using l1,l2,by simp[Cd]⟩,λi d hd=>?_,rfl,lS,λm hm=>?_,?_,λj hj=>?_,?_⟩,rfl,rfl⟩
 .have hd:(c.aw.set 0 _)[i]?=some d:=hd;by_cases e:i=0
  .subst e;rw[nC (by omega)] at hd;injection hd with hd;subst hd;have e1:(Cd P u).up.getD 0 false=true:=hu;have e2:(Cd P u).has.getD 0 false=false:=Ve hx _ _ _ p1;rw[e1,e2];refine⟨rfl,rfl,⟨rfl,rfl,rfl⟩,λ_=>⟨rfl,rfl⟩,Nat.zero_le _,Nat.zero_le _,λh=>absurd rfl h,⟨?_,?_⟩,?_,by rw[if_pos rfl];rfl⟩
   .show(fY++kF ⟨0,0,0,16⟩).length<=1000;rw[dG];omega
   .show(2:Nat)<=10;decide
   .show(13:Nat)<=24;decide
  .rw[List.getElem?_set_ne (λh=>e h.symm)] at hd;have hr:=(hn i d hd).later hx;have e2:(if i=lq P (none:Option BM) then(Option.map (dZ P x aI bu) none).toList else [])= []:=by split <;>rfl
   have bG:(if i=lq P (Cd P u).eE then(Option.map (dZ P x aI bu) (Cd P u).eE).toList else [])= []:=if_neg e;rw[bG];rw[show(if i=lq P (⟨u,List.replicate P.n false,[],none,[]⟩:ao9).eE then(Option.map (dZ P x aI bu) (⟨u,List.replicate P.n false,[],none,[]⟩:ao9).eE).toList else [])= [] from e2] at hr;exact hr
 .obtain⟨i,hi,rfl⟩:=List.mem_map.1 hm;exact List.mem_range.1 hi
 .show((List.range P.n).map nA.put).length<=10;rw[iZ,List.length_range];omega
 .injection hj with hj;subst hj;exact⟨rfl,by show 0+1<=jx P.n;unfold jx;omega,rfl⟩
 .show(c.jf++[_]).length<=1;rw[dG,List.length_singleton];omega
theorem k8{c:cr}{u h:List Bool}{k:Nat}{d:bA}(hk:k<=5000)(R:Rel P x aI bu k ⟨u,h,[],none,[none]⟩ c)(hd:c.aw[P.g]?=some d)(hu:u.getD P.g false=true)(hid:c.ids=1):
 zU c P.g (km aI) d/\(gH c P.g (km aI)).2=2/\Rel P x aI bu k (Lc P u h) (gH c P.g (km aI)).1/\(gH c P.g (km aI)).1.ids=2/\(gH c P.g (km aI)).1.aG=c.aG:=by
 obtain⟨⟨l1,l2,l3⟩,hn,pU,lS,hidx,vP,sD,vQ⟩:=R;obtain⟨p1,p2,p3⟩:=hx.pm;have hr:=hn _ d hd;have mu:∀i:Nat,(if i=lq P none then(Option.map (dZ P x aI bu) none).toList else [])= []:=λi=>by split <;>rfl
 have hdj:d.jobs= []:=by
  have e:=hr.jobs;rw[show(⟨u,h,[],none,[none]⟩:ao9).eE=none from rfl,mu] at e;rw[e];split <;>rfl
 have Ce:c.net= []:=pU;have ho:=N1 hx (h.getD P.g false);refine⟨⟨hd,hr.up.trans hu,by rw[l1];exact p2,hdj,alv hx,⟨by show(-9223372036854775808:Int)<=0;decide,by show(0:Int)<=9223372036854775807;decide⟩,⟨by rw[hr.bI];exact bQ ho (by decide),by have:=hr.am;omega,by have:=hr.mn;omega,by have:=hr.mn;omega,by have:=hr.cs;omega⟩,by omega,by omega,λm hm=>?_,by rw[Ce];simp,.inl rfl⟩,?_⟩
 .rw[l1,hid] at hm;obtain⟨j,hj,rfl⟩:=List.mem_map.1 hm;have hj:j<P.n:=List.mem_range.1 hj;exact BO hx (.ask j) hj
 have h3:(km aI).kind=3:=rfl;have hc:gH c P.g (km aI)=({ c with aw:=c.aw.set P.g { d with jobs:= [lM P.n P.g 2 (km aI) 0] },net:=((List.range P.n).map .ask).map (dD P x aI),ids:=2 },2):=by
  unfold gH;rw[hd];dsimp only;rw[if_pos h3,hid,l1,hdj];dsimp only;have hs:=aqa hx c.net (by rw[Ce];simp);rw[Ce,gY] at hs;rw[show(1+1:Nat)=2 from rfl,Ce,hs];simp
 rw[hc];refine⟨rfl,⟨⟨by simpa using l1,l2,l3⟩,λi d2 dw=>?_,rfl,lS,λm hm=>?_,?_,λj hj=>?_,?_⟩,rfl,rfl⟩
 .have dw:(c.aw.set P.g _)[i]?=some d2:=dw;have alx:lq P (Lc P u h).eE=P.g:=rfl;rw[alx];by_cases e:i=P.g
  .subst e;rw[nC (by omega)] at dw;injection dw with dw;subst dw;have aq:(Lc P u h).up.getD P.g false=true:=hu;rw[if_pos rfl,aq];have kz:d.up=true:=hr.up.trans hu;exact⟨kz,hr.bI,hr.ao,hr.none,hr.nb,hr.am,hr.JX,hr.mn,hr.cs,by rw[if_pos rfl];rfl⟩
  .rw[List.getElem?_set_ne (λh=>e h.symm)] at dw;have hr:=hn i d2 dw;rw[show(⟨u,h,[],none,[none]⟩:ao9).eE=none from rfl,mu] at hr;rw[if_neg e];exact hr
 .obtain⟨i,hi,rfl⟩:=List.mem_map.1 hm;exact List.mem_range.1 hi
 .show((List.range P.n).map nA.ask).length<=10;rw[iZ,List.length_range];omega
 .injection hj with hj;subst hj;exact⟨rfl,by show 0+1<=jx P.n;unfold jx;omega,rfl⟩
 .show c.jf.length<=2;omega
end
structure Ei(c:cr)(i:Nat)(d:bA):Prop where
 nd:c.aw[i]?=some d
 ok:J0 d
theorem nI(a b:Nat):∀a∈ [1,2,3,4],∀b∈ [1,2,3,4],((List.replicate 5 true).set a false).set b false=rF 5 a b:=by decide
theorem aly:∀a∈ [1,2,3,4],∀b∈ [1,2,3,4],((rF 5 a b).set a true).set b true=List.replicate 5 true:=by decide
theorem alz:∀a∈ [1,2,3,4],∀b∈ [1,2,3,4],(rF 5 a b).getD a false=false:=by decide
theorem alA:∀a∈ [1,2,3,4],∀b∈ [1,2,3,4],(rF 5 a b).getD b false=false:=by decide
theorem F1:∀a∈ [1,2,3,4],∀b∈ [1,2,3,4],(rF 5 a b).getD 0 false=true:=by decide
theorem O6{a:Nat}(h:a∈ [1,2,3,4]):a<5/\a≠0:=by
 simp at h;omega
section
variable{P:qK}{x:aC}{aI:Nat}{bu:Int}(hx:DK P x aI)
include hx
theorem O7{k:Nat}{s:ao9}{c:cr}(R:Rel P x aI bu k s c)(hk:k<=10000)(a:Nat)(ha:a<P.n):∃d,Ei c a d:=by
 obtain⟨d,hd⟩:∃d,c.aw[a]?=some d:=⟨_,dh (by rw[R.len.1];exact ha)⟩
 have hr:=R.aw a d hd;have hl:=N1 hx (s.has.getD a false);exact⟨d,hd,by rw[hr.bI];omega,by have:=hr.am;omega,by have:=hr.mn;omega,by have:=hr.mn;omega,by have:=hr.cs;omega⟩
end
structure alB(a b y z:Nat)(q1 cP:ol)(x:aC):Prop where
 run:∃(d1 d2 d3 d4 d5 d6 d7 d8:bA)(c3 gF:cr),
  Ei (fu 5 5) a d1/\Ei (fx (fu 5 5) a) b d2/\
  zU (fx (fx (fu 5 5) a) b) 0 q1 d3/\(gH (fx (fx (fu 5 5) a) b) 0 q1).2=1/\
  uK 2000 (gH (fx (fx (fu 5 5) a) b) 0 q1).1 c3/\c3.cZ= [⟨1,q1,0,8,[]⟩]/\
  Lb c3 a d4/\Lb (fZ c3 a) b d5/\
  Ei (fZ (fZ c3 a) b) y d6/\Ei (fx (fZ (fZ c3 a) b) y) z d7/\
  zU (fx (fx (fZ (fZ c3 a) b) y) z) 0 cP d8/\(gH (fx (fx (fZ (fZ c3 a) b) y) z) 0 cP).2=2/\
  uK 2000 (gH (fx (fx (fZ (fZ c3 a) b) y) z) 0 cP).1 gF/\gF.cZ= [⟨1,q1,0,8,[]⟩,⟨2,cP,0,0,[x]⟩]/\c3.aG=5
theorem alC{x:aC}{aI:Nat}{bu:Int}(hx:DK rG x aI)(hit:mR (fB rG aI bu) 8=x)(hb:lh [x]=0)(hm:fY.length<=100)(hm2:(kF ⟨0,0,0,16⟩).length<=900)(hvl: -9223372036854775808<=bu/\bu<=9223372036854775807){a b y z:Nat}(ha:a∈ [1,2,3,4])(hb4:b∈ [1,2,3,4])(hy:y∈ [1,2,3,4])(hz:z∈ [1,2,3,4]):alB a b y z (fB rG aI bu) (km aI) x:=by
 obtain⟨a5,a0⟩:=O6 ha;obtain⟨kB,b0⟩:=O6 hb4;obtain⟨vk,y0⟩:=O6 hy;obtain⟨z5,z0⟩:=O6 hz;have R0:=HG (bu:=bu) hx (by omega) 5;obtain⟨d1,h1⟩:=O7 hx R0 (by decide) a a5;have uB:=O5 hx R0 a a5 rfl;obtain⟨d2,h2⟩:=O7 hx uB (by decide) b kB;have uC:=O5 hx uB b kB rfl;have e2:(((Eh rG).up.set a false).set b false)=rF 5 a b:=nI a b a ha b hb4;dsimp only at uC;rw[e2] at uC;have alD:Rel rG x aI bu 0 ⟨rF 5 a b,List.replicate rG.n false,[],none,[]⟩ (fx (fx (fu 5 5) a) b):=uC
 obtain⟨h3,i3,vf,dL,g3⟩:=k7 hx alD (by rw[I4 hx b b0,I4 hx a a0];rfl) (F1 a ha b hb4) ((GK hx b).1.trans (GK hx a).1) hm hm2 hit (by decide) hvl;obtain⟨c3,aY,r3,uj,l4,m4,tF⟩:=J3 hx hb 2000 1 _ _ _ vf (by decide) (alp a ha b hb4);have hj:(⟨rF 5 a b,rF 5 a b,[],none,[none]⟩:ao9).eE=none:=rfl;have alE:c3.cZ= [⟨1,fB rG aI bu,0,8,[]⟩]:=uj.cZ;obtain⟨d4,h4⟩:=Ia hx uj a a5 a0 (.inr (alz a ha b hb4));have bZ:=I5 hx uj a a5 hj;obtain⟨d5,h5⟩:=Ia hx bZ b kB b0 (.inr (alA a ha b hb4));have pa:=I5 hx bZ b kB hj
 dsimp only at pa;rw[aly a ha b hb4] at pa;obtain⟨d6,h6⟩:=O7 hx pa (by omega) y vk;have Dr:=O5 hx pa y vk rfl;obtain⟨d7,h7⟩:=O7 hx Dr (by omega) z z5;have O8:=O5 hx Dr z z5 rfl;dsimp only at O8;rw[nI y z y hy z hz] at O8;obtain⟨d8,h8⟩:∃d,(fx (fx (fZ (fZ c3 a) b) y) z).aw[rG.g]?=some d:=⟨_,dh (by rw[O8.len.1];decide)⟩
 have alF:(fx (fx (fZ (fZ c3 a) b) y) z).ids=1:=by rw[(GK hx z).1,(GK hx y).1,(o7 hx b).1,(o7 hx a).1,m4,dL]
 obtain⟨h9,i9,sE,alG,g9⟩:=k8 hx (by omega) O8 h8 (F1 y hy z hz) alF;obtain⟨gF,wS,iV,I9,l10,m10,n10⟩:=J3 hx hb 2000 aY _ _ _ sE (by omega) (run_get a ha b hb4 y hy z hz);exact⟨d1,d2,nd0,d4,d5,d6,d7,d8,c3,gF,h1,h2,h3,i3,r3,alE,h4,h5,h6,h7,h9,i9,iV,I9.cZ,tF.trans (g3.trans ((GK hx b).2.trans (GK hx a).2))⟩
theorem alH{x:aC}{aI:Nat}{bu:Int}(hx:DK qO x aI)(hit:mR (fB qO aI bu) 8=x)(hb:lh [x]=0)(hm:fY.length<=100)(hm2:(kF ⟨0,0,0,16⟩).length<=900)(hvl: -9223372036854775808<=bu/\bu<=9223372036854775807):
 ∃(d1 d2:bA)(c3 gF:cr),zU (fu 3 5) 0 (fB qO aI bu) d1/\(gH (fu 3 5) 0 (fB qO aI bu)).2=1/\uK 100 (gH (fu 3 5) 0 (fB qO aI bu)).1 c3/\
  zU c3 2 (km aI) d2/\(gH c3 2 (km aI)).2=2/\uK 100 (gH c3 2 (km aI)).1 gF/\gF.cZ= [⟨1,fB qO aI bu,0,8,[]⟩,⟨2,km aI,0,0,[x]⟩]:=by
 have R0:Rel qO x aI bu 0 ⟨[true,true,true],List.replicate qO.n false,[],none,[]⟩ (fu 3 5):=HG (bu:=bu) hx (by omega) 5;obtain⟨h3,i3,vf,dL,g3⟩:=k7 hx R0 rfl rfl rfl hm hm2 hit (by decide) hvl;obtain⟨c3,aY,r3,uj,l4,m4,tF⟩:=J3 hx hb 100 1 _ _ _ vf (by decide) alq;obtain⟨d8,h8⟩:∃d,c3.aw[qO.g]?=some d:=⟨_,dh (by rw[uj.len.1];decide)⟩
 obtain⟨h9,i9,sE,alG,g9⟩:=k8 hx (by omega) uj h8 rfl (m4.trans dL);obtain⟨gF,wS,iV,I9,l10,m10,n10⟩:=J3 hx hb 100 aY _ _ _ sE (by omega) alr;exact⟨nd0,d8,c3,gF,h3,i3,r3,h9,i9,iV,I9.cZ⟩
end
end Go.Proofs.YtfghplfgndppfaaGreatDoor
