/- Texts of this claim, joined: DkList, NdC2, NdC3, NdO1, NdO2, NdO3, NdQ, NdO4, NdO6, NdO7, NdO8, ClW4, ClF, ClG, ClA1, ClJ1, ClW6. -/
import Derived.Test.YtfghplfgndppfaaGreatDoorZ15
import Derived.Test.YtfghplfgndppfaaGreatDoorZ18
import Derived.Test.YtfghplfgndppfaaGreatDoorZ21
import Derived.Test.YtfghplfgndppfaaGreatDoorZ22
import Derived.Test.YtfghplfgndppfaaGreatDoorZ23
set_option linter.unusedVariables false
set_option linter.unusedSimpArgs false
set_option maxRecDepth 100000
set_option maxHeartbeats 8000000
namespace Go.Proofs.YtfghplfgndppfaaGreatDoor
open Go.Proofs.Tryz
section
open Go.RowKit Go.Maps
theorem Jk{B:Nat}{h:cQ}{d:aV}{w:World}(H:bD B h d w)(hok:dx d)(dn:d.dead=false):
 Calls prog 145 #[.pointer (some ⟨h.g,0,none⟩)] w λe w'=>∃(A:Option Addr)(c:Nat)(ss:List (List UInt8)),e= .returned (.slice A ss.length c)/\ss.Perm (strKeys d.names)/\w'.ownsRow w.heap.size 9 1 (.slice A ss.length c) ss.length (qd (ss.mergeSort λx y=>decide (x<=y)))/\aoV w w':=by
 have jF:=hok.nG;have hcell:w.cell? ⟨h.g,2,none⟩=some (.map (some h.nb)):=by
  have hc:=aoW H.hd 2;exact hc
 have iT:=aoU (GY H);have fV:=aoU ((callsIn_wide (n:=5)).1 (afj (some h.nb) w));have dg:=aoU ((callsIn_wide (n:=5)).1 (afk h.nb _ d.names _ w H.names (by simp only[maxLen];omega) (by omega)));have Jl:=aoU dn;clear H hok jF dn;go_enter func145,ntmps145
 go_wp2_with fail;refine iT.out.mono ?_;rintro e w1⟨rfl,rfl⟩;rw[Jl.out];go_wp2_with fail;refine fV.out.mono ?_;rintro e w2⟨rfl,rfl⟩;go_wp2_with fail;refine dg.out.mono ?_;rintro e w3⟨v,ss,rfl,hp,hrow,hnil,hb⟩;obtain⟨A,c,rfl⟩:=eL hrow;go_wp2_with fail;go_ret;refine⟨A,c,ss,rfl,hp,?_,((aoV.refl _).alloc _).trans hb⟩;have e:(ss.mergeSort λx y=>decide (x<=y)).map Go.Proofs.encStr=qd (ss.mergeSort λx y=>decide (x<=y)):=rfl;rw[e] at hrow;exact jP hrow (by simp)
theorem Sq{ss:List (List UInt8)}(hp:ss.Perm (strKeys jJ)):ss.mergeSort (λx y=>decide (x<=y))= [ao3,dK,cT]:=by
 have hk:strKeys jJ= [ao3,dK,cT]:=by rw[LL];rfl
 rw[hk] at hp;exact(mergeSort_of_perm hp).trans (List.mergeSort_of_pairwise (by decide))
theorem HV(am:Int)(f ce a le:Nat)(h:am.toNat<18446744073709551616/\f<18446744073709551616/\ce<18446744073709551616/\a<18446744073709551616/\le<18446744073709551616):(lF 6 (qu [] [] am f ce a le)).length<=100:=by
 have h1:=XR [am.toNat,f,ce,a,le] (by simpa using h);have h0:(cU 0).length=1:=by rw[yZ (by decide)];rfl
 rw[AJ];unfold qu;simp only[dG,kN,dq,oO,ri,List.flatMap_nil,List.map_nil,List.length_nil,h0];simp only[iu,List.length_nil] at h1;simp at *;omega
theorem FP:fY.length<=100:=HV 1 0 0 0 0 (by decide)
def yv(g:Nat)(F:Option Addr)(fq:Nat)(nm:List UInt8)(dA:Nat):Array Value:= #[.pointer (some ⟨g,0,none⟩),.string (tx nm),.int .i64 1,.slice F 0 fq,.int .u64 0,.int .u64 0,.int .u64 0,.int .u64 0,.int .i64 dA,.int .u32 0,.int .i32 0,.int .u32 0,.bool false]
theorem qn:rx [] [] 1 0 0 0 0=true:=by decide
theorem afp:jm.length<=1000:=by
 unfold jm;rw[AJ];unfold cU;simp
theorem Cs:wL [] 8 (cU 1)=jm/\qo 8 (cU 1).length=0:=by
 have hn:(cU 1).length=1:=by rw[yZ (by decide)];rfl
 have h:qo 8 (cU 1).length=0:=by rw[hn];decide
 refine⟨?_,h⟩;unfold wL;rw[if_pos h];rfl
theorem nk{w:World}{B n:Nat}{A:Option Addr}{l:List (List UInt8)}(h:Rd w B 1 A n (qd l)){i:Nat}(hi:i<l.length):∃b o,A=some ⟨b,o,none⟩/\b<B/\w.cell? ⟨b,o+i,none⟩=some (.string (tx l[i])):=by
 have hn:n=l.length:=by have:=h.1;simp[qd] at this;omega
 obtain⟨b,o,e,hb,hc⟩:=h.2 (by omega);exact⟨b,o,e,hb,hc i _ (by simp[qd,hi])⟩
theorem iX.keeps{w w':World}{X:Nat->Prop}(h:iX w)(hK:V.af X w w')(hx:¬X (sy.g 15)):iX w':=by
 obtain⟨te,Dy,hc⟩:=h;refine⟨te,Dy,?_⟩;have hlt:sy.g 15<w.heap.size:=Lib.lt_of_cell hc;exact(mv (a:=⟨sy.g 15,0,none⟩) (hK.block _ hlt hx)).trans hc
theorem iX.up{w w':World}(h:iX w)(hu:aoV w w'):iX w':=h.keeps (X:=λ_=>False) (V.af.co hu) (λh=>h)
theorem afq(k:Nat)(hk:k<3)(s:List UInt8)(hs: [ao3,dK,cT][k]?=some s)(W:World)(hv:iX W):∃(v:Int)(ok:Bool),(ok=true->s=cT)/\Calls prog 218 #[.string (tx s),.string ⟨#[109,97,110]⟩] W λe w'=>e= .returned (.tuple #[.int .i64 v,.bool ok])/\aoV W w':=by
 rcases k with _|_|_|k
 .injection hs with hs;subst hs;exact⟨0,false,λh=>(by cases h),Sc ao3 oD (.inr (.inr rfl)) (by decide) (by decide) (by decide) W hv⟩
 .injection hs with hs;subst hs;exact⟨0,false,λh=>(by cases h),Sc dK oD (.inr (.inr rfl)) (by decide) (by decide) (by decide) W hv⟩
 .injection hs with hs;subst hs;exact⟨1,true,λ_=>rfl,apI oD (.inr (.inr rfl)) W⟩
 .omega
theorem afr{B aT fq:Nat}{F:Option Addr}{h:cQ}{w:World}(H:bD B h eN w)(hb:w.heap[aT]?=some (.cells (yv h.g F fq [] 0) 255 (0,0)))(hf:¬aJ h aT)(hv:iX w)(hB:sy.g 15<B)(qJ:B<=aT):
 Calls prog 178 #[.pointer (some ⟨aT,0,none⟩),.string (tx cT)] w λe w'=>e= .returned (.int .i64 0)/\∃h',bD B h' (fg [] 0 fY fY.length jm 11) w'/\w'.heap[aT]?=some (.cells (yv h.g F fq cT 1) 255 (0,0))/\V.af (λk=>aJ h k\/k=aT) w w'/\(∀k,aJ h' k->aJ h k\/w.heap.size<=k)/\h'.g=h.g:=by
 have fT:=aoU (afn 1 F 0 fq [] 0 0 0 0 w Rd.empty (by omega));rw[show((0:Nat):Int)=0 from rfl] at fT;have c0:w.cell? ⟨aT,0,none⟩=some (.pointer (some ⟨h.g,0,none⟩)):=aoW hb 0;have c2:w.cell? ⟨aT,2,none⟩=some (.int .i64 1):=aoW hb 2;have c3:w.cell? ⟨aT,3,none⟩=some (.slice F 0 fq):=aoW hb 3;have c4:w.cell? ⟨aT,4,none⟩=some (.int .u64 0):=aoW hb 4;have c5:w.cell? ⟨aT,5,none⟩=some (.int .u64 0):=aoW hb 5;have gF:w.cell? ⟨aT,6,none⟩=some (.int .u64 0):=aoW hb 6;have pz:w.cell? ⟨aT,7,none⟩=some (.int .u64 0):=aoW hb 7;have dr:=aoU H
 have X2:=aoU hb;have dz:=aoU hf;have cd:=aoU hv;clear H hb hf hv;go_enter func178,ntmps178
 go_wp2_with fail;refine fT.out.mono ?_;rintro e w1⟨R,rc,rfl,-,hu1⟩;have ib:=aoU (XS none 0 0 [] none 0 0 [] R 0 rc [] 1 0 0 0 0 w1 Rd.empty (by omega) Rd.empty (by omega) Rd.empty (by omega));rw[show((0:Nat):Int)=0 from rfl] at ib;clear c0 c2 c3 c4 c5 gF pz fT;go_wp2_with fail;refine ib.out.mono ?_;rintro e w2 (⟨hno,-⟩|⟨-,P,oz,pc,rfl,yj,aq⟩)
 .rw[qn] at hno;cases hno
 rw[gY] at yj;have mX:oz=fY.length:=(Rd.own yj).gO;have hm0:=FP;have sm:aoV w w2:=hu1.trans aq;have FQ:∀k,bW P k->¬aJ h k/\k<w2.heap.size:=λk hk=>by
  obtain⟨q1,cP⟩:=oI yj hk;refine⟨λgV=>?_,cP⟩;have:=(dr.out.lt gV).2;have:=hu1.size;omega
 have Br:=aoU (Rg (dr.out.up sm) me (by decide) (by decide) (by decide) cT (by decide) P oz pc fY (Rd.own yj) (by omega) FQ d3 (d4 fY (by omega)) (d5 fY) (by show 3<=_;decide) (by show 4<=_;decide));have RS:=aoU sm;clear FQ sm hu1 aq yj mX ib;go_wp2_with fail;refine Br.out.mono ?_;rintro e w3⟨rfl,h3,H3,nO⟩;have Nr:=aoU ((dW.up RS.out).trans nO);have FR:=aoU (Hn H3 (RZ (by omega)) lf (by decide));rw[aes,Nr.out.g,show tx lf=(⟨#[99,117,114,114,101,110,116,46,116,109,112]⟩:ByteArray) from rfl] at FR;have pD:=aoU H3
 clear H3 nO Br RS;go_wp2_with fail;refine FR.out.mono ?_;rintro e w4⟨uj,tF,c4,rfl,-,eO⟩;have w6:=Nr.out.trans (dW.up eO);have ane:aT<w.heap.size:=aB X2.out;have k4:∀(h':cQ)(W:World),dW h w h' W->¬aJ h' aT:=λh' W T hf=>(T.aJ aT hf).elim dz.out (λh=>by omega)
 have hbk:∀(h':cQ)(W:World),dW h w h' W->W.heap[aT]?=some (.cells (yv h.g F fq [] 0) 255 (0,0)):=λh' W T=>cL T.kept X2.out dz.out
 have eG:¬aJ h (sy.g 15):=λhf=>by have:=(dr.out.lt hf).1;omega
 have HO:∀(h':cQ)(W:World),dW h w h' W->iX W:=λh' W T=>cd.out.keeps T.kept eG
 have mY:=aoU (apI oD (.inr (.inr rfl)) w4);rw[show oD++[46,49]=cT from rfl,show tx oD=(⟨#[109,97,110]⟩:ByteArray) from rfl] at mY;have q2:=aoU w6;have H4:=aoU (pD.out.up eO);have Hp:=aoU k4;have afs:=aoU hbk;have aft:=aoU HO;clear k4 hbk eG HO w6 eO FR pD cd;go_wp2_with fail;refine mY.out.mono ?_;rintro e ai⟨rfl,cI⟩;have Sr:=aoU (za none 0 0 [] 1 ai Rd.empty (by omega) (by decide));rw[show((1:Nat):Int)=1 from rfl] at Sr;clear mY;go_wp2_with fail;refine Sr.out.mono ?_;rintro e cH⟨afu,n6,gF,rfl,lD,eZ⟩
 rw[gY] at lD;have Ns:n6=(cU 1).length:=(Rd.own lD).gO;have afv:(cU 1).length=1:=by rw[yZ (by decide)];rfl
 have Ss:=aoU (Qi none 0 0 [] 8 afu n6 gF (cU 1) cH Rd.empty (Rd.own lD) (by omega) (by omega));rw[Cs.1,Cs.2,show((0:Nat):Int)=0 from rfl] at Ss;have Jn:=cI.trans eZ;clear Sr lD Ns afv;go_wp2_with fail;refine Ss.out.mono ?_;rintro e w7⟨ef,n7,pz,rfl,Nt,uo⟩;have apJ:=Jn.trans uo;have Bw:n7=jm.length:=(Rd.own Nt).gO;have Jo:jm.length<=1000:=afp;have K9:=aoU (q2.out.trans (dW.up apJ));have hO:∀k,bW ef k->¬aJ h3 k/\k<w7.heap.size:=λk hk=>by
  obtain⟨q1,cP⟩:=oI Nt hk;refine⟨λgV=>?_,cP⟩;have:=(H4.out.lt gV).2;have:=Jn.size;omega
 have Br:=aoU (Rg (H4.out.up apJ) (RZ (by omega)) (by show 5<=_;decide) (by show 2<_;decide) (by show 2<_;decide) lf (by decide) ef n7 pz jm (Rd.own Nt) (by omega) hO (d6 fY) (d7 fY jm (by omega) Jo) (d8 fY jm) (by show 6<=_;decide) (by show 7<=_;decide));rw[Nr.out.g,show tx lf=(⟨#[99,117,114,114,101,110,116,46,116,109,112]⟩:ByteArray) from rfl] at Br;clear hO Jn cI eZ uo Nt Bw Ss apJ q2 H4;go_wp2_with fail;refine Br.out.mono ?_;rintro e dY⟨rfl,h8,oA,HS⟩;have Sv:=aoU (K9.out.trans HS)
 have vu:=aoU (Wb oA (zq (by omega) Jo) (by show 8<=_;decide));rw[d9,Sv.out.g,show((0:Nat):Int)=0 from rfl] at vu;clear oA HS Br K9 Nr;go_wp2_with fail;refine vu.out.mono ?_;rintro e ag⟨h9,rfl,Bk,HH⟩;have Sw:=aoU (Sv.out.trans HH);have sw:=aoU (Pb Bk (RE (by omega) Jo) (by show 9<=_;decide) (by show 0<_;decide) lf ao3 (by decide) (by decide));rw[d10,Sw.out.g,show((0:Nat):Int)=0 from rfl,show tx lf=(⟨#[99,117,114,114,101,110,116,46,116,109,112]⟩:ByteArray) from rfl,show tx ao3=(⟨#[99,117,114,114,101,110,116]⟩:ByteArray) from rfl] at sw
 clear Bk HH vu Sv;go_wp2_with fail;refine sw.out.mono ?_;rintro e je⟨h10,rfl,Ds,e5⟩;have Nu:=Sw.out.trans e5;have Bi:=afs.out _ _ Nu;have b1:je.cell? ⟨aT,1,none⟩=some (.string (tx [])):=aoW Bi 1;have anf:je.cell? ⟨aT,8,none⟩=some (.int .i64 0):=aoW Bi 8;have f1:=ay Bi 1;have f8:=ay Bi 8;have hx1:=bM je aT 1 (.string (tx cT)) _ _ Bi;have hx2:=bM _ aT 8 (.int .i64 1) _ _ hx1
 have Sx:V.af (λk=>k=aT) je ((je.setCell ⟨aT,1,none⟩ (.string (tx cT))).setCell ⟨aT,8,none⟩ (.int .i64 1)):=aoZ _ _ aT 8 _ (aoZ _ _ aT 1 _ (V.af.refl _ _));have hx3:((je.setCell ⟨aT,1,none⟩ (.string (tx cT))).setCell ⟨aT,8,none⟩ (.int .i64 1)).heap[aT]?=some (.cells (yv h.g F fq cT 1) 255 (0,0)):=hx2;have IC:∀k,aJ h10 k->B<=k:=λk hk=>(Ds.lt hk).1
 have js:=Ds.kt Sx (λk hk e=>Hp.out _ _ Nu (e▸hk));have Bx:=aoU Nu;have DC:=aoU hx3;have Sy:=aoU Sx;have vu:=aoU (Wb js (aex (by omega) Jo) (by show 10<=_;decide));rw[d11,Bx.out.g,show((0:Nat):Int)=0 from rfl] at vu;clear hx1 hx2 hx3 Sx Ds js e5 Nu sw Sw Bi;go_wp2_with fail;refine vu.out.mono ?_;rintro e fE⟨h11,rfl,Fy,yw⟩;have g11:h11.g=h.g:=yw.g.trans Bx.out.g;have ql:dx (fg [] 0 fY fY.length jm 11):=AC _ _ _ _ _ _ (by decide) (by decide) (by omega) (by omega) (by omega)
 have n10:¬aJ h10 aT:=Hp.out _ _ Bx.out;have HF:=cL yw.kept DC.out n10;have ct:V.af (λk=>aJ h k\/k=aT) w fE:=by
  have k1:V.af (λk=>aJ h k\/k=aT) w _:=ci (eQ Bx.out.kept (λ_ hk=> .inl hk)) (eQ Sy.out (λ_ hk=> .inr hk));refine⟨yw.kept.os.trans k1.os,yw.kept.tape.trans k1.tape,yw.kept.output.trans k1.output,bQ k1.size yw.kept.size,λk hk hx=>(yw.kept.block k (cg hk k1.size) (λhf=>?_)).trans (k1.block k hk hx)⟩;exact(Bx.out.aJ k hf).elim (λh9=>hx (.inl h9)) (λh9=>by omega)
 have Cg:∀k,aJ h11 k->aJ h k\/w.heap.size<=k:=λk hk=>(yw.aJ k hk).elim (Bx.out.aJ k) (λh9=> .inr (bQ Bx.out.kept.size (bQ Sy.out.size h9)))
 have j3:iX fE:=(((aft.out _ _ Bx.out).keeps Sy.out (λe=>by have e:sy.g 15=aT:=e;omega))).keeps yw.kept (λhf=>by have:=IC _ hf;omega);have oN:=aoU (Jk Fy ql rfl);rw[g11] at oN;have afw:=aoU Fy;have afx:=aoU HF;have afy:=aoU ct;have afz:=aoU Cg;have afA:=aoU j3;have afB:=aoU g11;clear Fy HF ct Cg j3 g11 ql n10 vu yw Jo hm0;go_wp2_with fail;refine oN.out.mono ?_;rintro e tL⟨A,c,ss,rfl,hp,DE,fL⟩;have hl:=Sq hp;have hlen:ss.length=3:=by
  have:=(List.mergeSort_perm ss (λx y=>decide (x<=y))).length_eq;rw[hl] at this;exact this.symm
 rw[hl,hlen] at DE;rw[hlen];have Jp:Rd tL tL.heap.size 1 A 3 (qd [ao3,dK,cT]):=Rd.own DE;have Sz:=aoU (afA.out.up fL);have SA:=aoU Jp;have afC:=aoU fL;clear hp hl hlen DE Jp fL oN;go_wp2_with fail;go_loopw[104] (λi wr=>∃k:Nat,i= .int .i64 k/\k<=3/\aoV tL wr) (λi _=>3-(intOf i).toNat)
 case atStart=>exact⟨0,rfl,by omega,aoV.refl tL⟩
 case round=>
  obtain⟨k,rfl,hk,hu⟩:=hrel;by_cases iy:k<3
  .obtain⟨s,hs⟩:∃s,[ao3,dK,cT][k]?=some s:=⟨_,dh iy⟩
   obtain⟨b,o,rfl,iW,fK⟩:=nk (SA.out.up hu) (i:=k) iy;have hcs:wr.cell? ⟨b,o+k,none⟩=some (.string (tx s)):=by
    rw[fK];have: [ao3,dK,cT][k]=s:=by rw[dh iy] at hs;injection hs
    rw[this]
   obtain⟨v,ok,hok,hn⟩:=afq k iy s hs wr (Sz.out.up hu);have ff:=aoU hn;have cO:=aoU hok;clear hs iW fK hn hok;go_wp2_with fail;refine ff.out.mono ?_;rintro e Jq⟨rfl,Nv⟩;have aq:=hu.trans Nv;clear hcs ff;cases ok with
   |false=>
    go_wp2_with fail;exact⟨⟨k+1,by rw[Int.natCast_succ],by omega,aq⟩,by simp only[intOf];omega⟩
   |true=>
    have hs:s=cT:=cO.out rfl;subst hs;have ang:=Lt (rfl:cT=cT);go_wp2_with fail;exact⟨⟨k+1,by rw[Int.natCast_succ],by omega,aq⟩,by simp only[intOf];omega⟩
  .have jN:k=3:=by omega
   subst jN;go_wp2_with fail;go_ret;have hw:=afC.out.trans hu;exact⟨rfl,h11,afw.out.up hw,aH hw afx.out,ci afy.out (V.af.co hw),afz.out,afB.out⟩
theorem afS:wU 1 [] 0 0 0 0=true:=by decide
theorem Mv{ss:List (List UInt8)}(hp:ss.Perm (strKeys (.map []:ed))):ss= []:=by
 have hk:strKeys (.map []:ed)= []:=by rfl
 rw[hk] at hp;exact hp.eq_nil
theorem afT{B:Nat}{h:cQ}{w:World}(H:bD B h eN w)(hv:iX w)(hB:sy.g 15<B)(qJ:B<=w.heap.size):
 Calls prog 152 #[.pointer (some ⟨h.g,0,none⟩),.agg #[.int .i64 1,.slice none 0 0,.int .u64 0,.int .u64 0,.int .u64 0,.int .u64 0]] w λe w'=>∃aT F fq h',e= .returned (.tuple #[.pointer (some ⟨aT,0,none⟩),.int .i64 0])/\w.heap.size<=aT/\bD B h' (fg [] 0 fY fY.length jm 11) w'/\w'.heap[aT]?=some (.cells (yv h.g F fq cT 1) 255 (0,0))/\V.af (aJ h) w w'/\(∀k,aJ h' k->aJ h k\/w.heap.size<=k)/\h'.g=h.g:=by
 obtain⟨wa,cM⟩:=bB (w.alloc (.cells #[.int .i64 1,.slice none 0 0,.int .u64 0,.int .u64 0,.int .u64 0,.int .u64 0] 202))
 have aQ:aoV w wa:=by rw[cM];exact(aoV.refl w).alloc _
 have aL:wa.heap[w.heap.size]?=some (.cells #[.int .i64 1,.slice none 0 0,.int .u64 0,.int .u64 0,.int .u64 0,.int .u64 0] 202 (0,0)):=by rw[cM];exact bp w _
 obtain⟨d0,d1,d2,d3,d4,d5⟩:=iQ aL;rw[cM] at d0 d1 d2 d3 d4 d5;have IT:=aoU (Xw 1 none 0 0 [] 0 0 0 0 wa Rd.empty (by omega) (by omega));rw[afS,show((0:Nat):Int)=0 from rfl] at IT;have jK:=aoU cM;have dr:=aoU H;have cd:=aoU hv;have mK:=aoU aL;clear cM H hv;go_enter func152,ntmps152
 go_wp2_with fail;rw[<- jK.out];refine IT.out.mono ?_;rintro e w1⟨rfl,hu1⟩;have fe:=aH hu1 mK.out;obtain⟨e0,e1,e2,bG,bT,dt⟩:=iQ fe;have SD:=aoU (YM 1 none 0 0 0 0 0 w1);rw[show((0:Nat):Int)=0 from rfl] at SD;clear d0 d1 d2 d3 d4 d5 IT fe aL;go_wp2_with fail;refine SD.out.mono ?_;rintro e w2⟨R,rc,rfl,aq⟩;have sm:=(aQ.trans hu1).trans aq
 obtain⟨w3,tm⟩:=bB (w2.alloc (.cells #[.pointer (some ⟨h.g,0,none⟩),.string ⟨#[]⟩,.int .i64 1,.slice R 0 rc,.int .u64 0,.int .u64 0,.int .u64 0,.int .u64 0,.int .i64 0,.int .u32 0,.int .i32 0,.int .u32 0,.bool false] 255))
 have bV:aoV w2 w3:=by rw[tm];exact(aoV.refl w2).alloc _
 have mQ:w3.heap[w2.heap.size]?=some (.cells (yv h.g R rc [] 0) 255 (0,0)):=by rw[tm];exact bp w2 _
 have zL:=sm.trans bV;have Js:w.heap.size<=w2.heap.size:=sm.size;have hnf:¬aJ h w2.heap.size:=λhf=>by have:=(dr.out.lt hf).2;omega
 have mY:=aoU (Jd oD (.inr (.inr rfl)) w3);rw[show oD++[46,49]=cT from rfl,show tx oD=(⟨#[109,97,110]⟩:ByteArray) from rfl] at mY;have Tn:=aoU (afr (dr.out.up zL) mQ hnf (cd.out.up zL) hB (bQ qJ Js));have Nz:=aoU tm;have afU:=aoU zL;clear e0 e1 e2 bG bT dt SD tm bV mQ zL sm aq hu1 hnf mK cd;go_upto_region 4 with fail
 rw[<- Nz.out];generalize w2.heap.size=aT at *;go_wp2_with fail;refine mY.out.mono ?_;rintro e w4⟨rfl,rfl⟩;go_wp2_with fail;refine Tn.out.mono ?_;rintro e ai⟨rfl,h',H5,md,eP,f5,g5⟩;have mr:=aoU H5;have rA:=aoU md;have Bz:=aoU eP;have afV:=aoU f5;have Ca:=aoU g5;clear H5 md eP f5 g5 Tn mY;go_wp2_with fail;refine dm (v:= .tuple #[.pointer (some ⟨aT,0,none⟩),.int .i64 0]) (by simp[results,results152,go_sem]) rfl ?_;have eP:=Bz.out;have hu:=afU.out
 refine⟨aT,R,rc,h',rfl,Js,mr.out,rA.out,⟨eP.os.trans hu.os,eP.tape.trans hu.tape,eP.output.trans hu.output,bQ hu.size eP.size,λk hk hx=>(eP.block k (cg hk hu.size) (λe=>e.elim hx (λe=>?_))).trans (hu.block k hk)⟩,λk hk=>(afV.out k hk).imp id (λh=>bQ hu.size h),Ca.out⟩;omega
theorem afW{B:Nat}{h:cQ}{w:World}{K:aD}(H:bD B h D0 w)(hv:iX w)(hB:sy.g 15<B)(qJ:B<=w.heap.size):
 Calls prog 96 #[.pointer (some ⟨h.g,0,none⟩)] w λe w'=>∃p:Sp,e= .returned (.tuple #[.pointer (some ⟨p.gs,0,none⟩),.int .i64 0])/\p.h.g=h.g/\vt B p nd0 K w'/\V.af (aJ h) w w'/\(∀k,ek p nd0 k->aJ h k\/w.heap.size<=k):=by
 have oN:=aoU (Jk H Nb rfl);have dr:=aoU H;have cd:=aoU hv;clear H hv;go_enter func96,ntmps96
 go_wp2_with fail;refine oN.out.mono ?_;rintro e w1⟨A,c,ss,rfl,hp,-,hu1⟩;have SE:ss= []:=Mv hp;subst SE;have H1:=dr.out.up hu1;have my:=aoU (abb H1 Nb (by decide) (by decide) (by decide) dK (by decide));rw[show tx dK=(⟨#[108,111,103,46,49]⟩:ByteArray) from rfl] at my;have FS:=aoU hu1;simp only[List.length_nil];clear hp H1 oN;go_wp2_with fail;go_loopw[14] (λi wr=>i= .int .i64 0/\wr=w1) (λi _=>0)
 case atStart=>exact⟨rfl,rfl⟩
 case round=>
  obtain⟨rfl,rfl⟩:=hrel;go_wp2_with fail;refine my.out.mono ?_;rintro e w2⟨h2,H2,eC,⟨h0,gl,rfl,X5,HX,T2⟩|⟨hno,-⟩⟩
  rotate_left
  .exact absurd (by rw[d1]) hno
  rw[d1] at H2;have g2:h2.g=h.g:=eC.g;have D2:mh gl h2.g dK 0 0 false w2:=by rw[g2];exact X5
  have k5:=aoU (ZC H2 D2 HX lg (by decide) (by decide));have ao0:∀k,aJ h2 k->B<=k:=λk hk=>(H2.lt hk).1
  have HM:iX w2:=(cd.out.up FS.out).keeps eC.kept (λhf=>by have:=(dr.out.lt hf).1;omega);have hgB:B<=gl:=bQ qJ (bQ FS.out.size T2);have Mg:=aoU ((lH.up (gl:=gl) FS.out).trans (lH.dk eC));have Nq:=aoU HM;have FT:=aoU g2;have Ev:=aoU ao0;clear H2 eC X5 D2 HM g2 ao0 my cd HX;go_wp2_with fail;refine k5.out.mono ?_;rintro e w3⟨h3,rfl,H3,wR,nO⟩;rw[d2] at H3|-;have NA:=Mg.out.trans nO;have g3:h3.g=h.g:=NA.g;have q4:iX w3:=Nq.out.keeps nO.kept (λhf=>hf.elim (λhf=>by have:=Ev.out _ hf;omega) (λe=>by omega))
  have hs3:w.heap.size<=w3.heap.size:=NA.kept.size;have Jt:=aoU (afT H3 q4 hB (bQ qJ hs3));rw[g3] at Jt;have Hu:gl<w3.heap.size:=wR.lt;have Ju:w.heap.size<=gl:=bQ FS.out.size T2;have afX:¬aJ h3 gl:=H3.nf wR (by decide) (by decide) (by decide) (by decide) (by decide);have afY:=aoU NA;have afZ:=aoU (show h2.g=h.g from FT.out);have af0:=aoU wR;have HN:=aoU g3;clear H3 wR nO NA g3 q4 k5 Mg Nq FT Ev;rw[show((0:Nat):Int)=0 from rfl];go_wp2_with fail;refine Jt.out.mono ?_;rintro e w4⟨aT,F,fq,h4,rfl,Js,H4,b4,cJ,f4,g4⟩
  have nK:=aoU H4;have rz:=aoU b4;have vG:=aoU cJ;have Rq:=aoU f4;have Jr:=aoU g4;have hs4:w3.heap.size<=w4.heap.size:=cJ.size;have qF:=aoU (q3 (B:=B) w4 (bQ qJ (bQ hs3 hs4)));clear H4 b4 cJ f4 g4 Jt;go_wp2_with fail;refine qF.out.mono ?_;rintro e ai⟨dX,dy,bO,cf,rfl,HT,m1,m2,m3,m4,cI⟩;have ap5:=aoU HT;have xj:=aoU cI;clear HT cI qF;go_wp2_with fail;refine dm (v:= .tuple #[.pointer (some ⟨ai.heap.size,0,none⟩),.int .i64 0]) (by simp[results,results96,go_sem]) rfl ?_;have cI:=xj.out
  have hal:=(aoV.refl ai).alloc (.cells #[.pointer (some ⟨h.g,0,none⟩),.pointer (some ⟨aT,0,none⟩),.pointer (some ⟨gl,0,none⟩),.pointer (some ⟨dX,0,none⟩),.slice none 0 0,.slice none 0 0,.int .i64 0,.int .u32 0,.int .i32 0,.int .u32 0,.bool false] 168);have hnew:=bp ai (.cells #[.pointer (some ⟨h.g,0,none⟩),.pointer (some ⟨aT,0,none⟩),.pointer (some ⟨gl,0,none⟩),.pointer (some ⟨dX,0,none⟩),.slice none 0 0,.slice none 0 0,.int .i64 0,.int .u32 0,.int .i32 0,.int .u32 0,.bool false] 168);have vH:=cI.trans hal;have cJ:=vG.out;have nO:=afY.out;have af2:¬aJ h3 gl:=afX
  have E3:mh gl h4.g dK 0 0 false w4:=by
   rw[Jr.out];have:=af0.out;rw[show h2.g=h.g from afZ.out] at this;exact this.keeps cJ af2
  refine⟨⟨h4,ai.heap.size,aT,gl,dX,dy,bO,cf,none,0,F,fq⟩,rfl,Jr.out,?_,?_,?_⟩
  .refine⟨nK.out.up vH,?_,?_,E3.up vH,λ_=>ap5.out.up hal,jB.empty,⟨?_,?_,?_⟩,aZ _⟩
   .show(ai.alloc (.cells #[.pointer (some ⟨h.g,0,none⟩),.pointer (some ⟨aT,0,none⟩),.pointer (some ⟨gl,0,none⟩),.pointer (some ⟨dX,0,none⟩),.slice none 0 0,.slice none 0 0,.int .i64 0,.int .u32 0,.int .i32 0,.int .u32 0,.bool false] 168)).heap[ai.heap.size]?=some (.cells #[.pointer (some ⟨h4.g,0,none⟩),.pointer (some ⟨aT,0,none⟩),.pointer (some ⟨gl,0,none⟩),.pointer (some ⟨dX,0,none⟩),.slice none 0 0,.slice none 0 0,.int .i64 0,.int .u32 0,.int .i32 0,.int .u32 0,.bool false] 168 (0,0));rw[Jr.out];exact hnew
   .have e:=aH vH rz.out;show(ai.alloc (.cells #[.pointer (some ⟨h.g,0,none⟩),.pointer (some ⟨aT,0,none⟩),.pointer (some ⟨gl,0,none⟩),.pointer (some ⟨dX,0,none⟩),.slice none 0 0,.slice none 0 0,.int .i64 0,.int .u32 0,.int .i32 0,.int .u32 0,.bool false] 168)).heap[aT]?=some (.cells (yv h4.g F fq cT 1) 255 (0,0));rw[Jr.out];exact e
   .show B<=ai.heap.size;have:=cI.size;omega
   .show B<=aT;omega
   .exact hgB
  .have aY:V.af (aJ h) w w3:=⟨nO.kept.os,nO.kept.tape,nO.kept.output,nO.kept.size,λk hk hx=>nO.kept.block k hk (λe=>e.elim hx (λe=>by omega))⟩
   have af3:V.af (aJ h) w w4:=⟨cJ.os.trans aY.os,cJ.tape.trans aY.tape,cJ.output.trans aY.output,bQ aY.size cJ.size,λk hk hx=>(cJ.block k (cg hk aY.size) (λhf=>(nO.aJ k hf).elim hx (λh=>by omega))).trans (aY.block k hk hx)⟩
   exact ci af3 (V.af.co vH)
  .intro k hk;have hs5:=cI.size;rcases hk with hk|rfl|rfl|rfl|⟨-,rfl|rfl|rfl|rfl⟩
   .exact(Rq.out k hk).elim (nO.aJ k) (λh=> .inr (by omega))
   .exact .inr (by show w.heap.size<=ai.heap.size;omega)
   .exact .inr (by omega)
   .exact .inr Ju
   .exact .inr (by omega)
   .exact .inr (by omega)
   .exact .inr (by omega)
   .exact .inr (by omega)
def DF(s:List UInt8)(v:Value):Bool:=match v with | .string t=>decide (s=t.data.toList++[46,49])|_=>false
theorem af5(s:List UInt8)(hs:s=dK\/s=cT)(k:List UInt8)(hk:isKind k)(w:World)(hv:iX w):∃v:Int,Calls prog 218 #[.string (tx s),.string (tx k)] w λe w'=>e= .returned (.tuple #[.int .i64 v,.bool (DF s (.string (tx k)))])/\aoV w w':=by
 have ho:DF s (.string (tx k))=decide (s=k++[46,49]):=by show decide (s=(tx k).data.toList++[46,49])=_;rw[Aj]
 rw[ho];by_cases h:s=k++[46,49]
 .rw[decide_eq_true h];have:=apI k hk w;rw[<- h] at this;exact⟨1,this⟩
 .rw[decide_eq_false h];refine⟨0,Sc s k hk ?_ ?_ ?_ w hv⟩
  .rcases hs with rfl|rfl <;>rcases hk with rfl|rfl|rfl <;>first|rfl|exact absurd rfl h
  .rcases hs with rfl|rfl <;>decide
  .rcases hs with rfl|rfl <;>rfl
theorem af6(s:List UInt8)(hs:s=dK\/s=cT)(k:List UInt8)(hk:isKind k)(g:Nat)(w:World)(hv:iX w)(hc:w.cell? ⟨g,0,none⟩=some (.string (tx s))):
 Calls prog 217 #[.string (tx k),.pointer (some ⟨g,0,none⟩)] w λe w'=>e= .returned (.bool (DF s (.string (tx k))))/\aoV w w':=by
 obtain⟨v,hn⟩:=af5 s hs k hk w hv;have ff:=aoU hn;clear hn;generalize DF s (.string (tx k))=q at *;go_enter func217,ntmps217
 go_wp2_with fail;refine ff.out.mono ?_;rintro e w1⟨rfl,hu⟩;go_wp2_with fail;go_ret;exact⟨rfl,hu⟩
theorem en(s:List UInt8)(hs:s=dK\/s=cT)(w:World)(hv:iX w):Calls prog 148 #[.string (tx s)] w λe w'=>e= .returned (.bool true)/\aoV w w':=by
 obtain⟨wa,cM⟩:=bB (w.alloc (.cells #[.string (tx s)] 9))
 have aQ:aoV w wa:=by rw[cM];exact(aoV.refl w).alloc _
 have aL:wa.heap[w.heap.size]?=some (.cells #[.string (tx s)] 9 (0,0)):=by rw[cM];exact bp w _
 have c0:=aoW aL 0;rw[cM] at c0;obtain⟨wb,cN⟩:=bB (wa.alloc (.cells #[.string ⟨#[108,111,103]⟩,.string ⟨#[116,97,98]⟩,.string ⟨#[109,97,110]⟩] 9))
 have aX:aoV wa wb:=by rw[cN];exact(aoV.refl wa).alloc _
 have hby:wb.heap[wa.heap.size]?=some (.cells #[.string ⟨#[108,111,103]⟩,.string ⟨#[116,97,98]⟩,.string ⟨#[109,97,110]⟩] 9 (0,0)):=by rw[cN];exact bp wa _
 have hrd:Rd wb wb.heap.size 1 (some ⟨wa.heap.size,0,none⟩) 3 [.string (tx yr),.string (tx Dx),.string (tx oD)]:=by
  rw[cN];exact Rd.made wa #[.string ⟨#[108,111,103]⟩,.string ⟨#[116,97,98]⟩,.string ⟨#[109,97,110]⟩] 9 rfl
 have zx:=aH aX aL;have e1:((tx s).toList== [99,117,114,114,101,110,116])=false:=by rw[sM];rcases hs with rfl|rfl <;>rfl
 have e2:((tx s).toList== [99,117,114,114,101,110,116,46,116,109,112])=false:=by rw[sM];rcases hs with rfl|rfl <;>rfl
 have qr: [Value.string (tx yr),.string (tx Dx),.string (tx oD)].any (DF s)=true:=by rcases hs with rfl|rfl <;>rfl
 have FU:=SF 217 #[.pointer (some ⟨w.heap.size,0,none⟩)] (DF s) (some ⟨wa.heap.size,0,none⟩) 3 3 [.string (tx yr),.string (tx Dx),.string (tx oD)] wb hrd (by omega) (enters_of func217 (by kernel_rfl) rfl) (λW k hk _ hW=>by
  have h3:∀kd,isKind kd->Calls prog 217 #[.string (tx kd),.pointer (some ⟨w.heap.size,0,none⟩)] W λe w'=>e= .returned (.bool (DF s (.string (tx kd))))/\aoV W w':=λkd wz=>af6 s hs kd wz _ W (hv.up ((aQ.trans aX).trans hW)) (aoW (aH hW zx) 0)
  rcases k with _|_|_|k
  .exact h3 yr (.inl rfl)
  .exact h3 Dx (.inr (.inl rfl))
  .exact h3 oD (.inr (.inr rfl))
  .exact absurd hk (by simp))
 rw[qr] at FU;have bh:=aoU FU;have jK:=aoU cM;have iD:=aoU cN;have kG:=aoU (aQ.trans aX);clear FU cM cN aQ aX hby hrd zx qr aL;go_enter func148,ntmps148
 go_upto_region 3 with fail
 rw[<- jK.out];go_wp2_with fail;rw[<- iD.out];refine bh.out.mono ?_;rintro e w1⟨rfl,hu⟩;go_wp2_with fail;go_ret;exact⟨rfl,kG.out.trans hu⟩
theorem Pr(w:World):Calls prog 148 #[.string (tx ao3)] w λe w'=>e= .returned (.bool true)/\aoV w w':=by
 have aQ:aoV w (w.alloc (.cells #[.string (tx ao3)] 9)):=(aoV.refl w).alloc _;have c0:=aoW (bp w (.cells #[.string (tx ao3)] 9)) 0;have e1:((tx ao3).toList== [99,117,114,114,101,110,116])=true:=by rw[sM];rfl
 go_enter func148,ntmps148
 go_wp2_with fail;go_ret;exact⟨rfl,aQ⟩
theorem af7{B:Nat}{h:cQ}{d:aV}{w:World}(H:bD B h d w)(hok:dx d)(g:Nat)(hc:w.cell? ⟨g,0,none⟩=some (.pointer (some ⟨h.g,0,none⟩))):
 Calls prog 146 #[.string (tx ao3),.pointer (some ⟨g,0,none⟩)] w λe w'=>e= .returned (.bool true)/\aoV w w':=by
 have fJ:=aoU (Hn H hok ao3 (by decide));have fS:=aoU (λW=>Pr W);have e1:((tx ao3).toList== [99,117,114,114,101,110,116,46,116,109,112])=false:=by rw[sM];rfl
 have e2:((tx ao3).toList== [109,97,110,46,49])=false:=by rw[sM];rfl
 have bG:((tx ao3).toList== [108,111,103,46,49])=false:=by rw[sM];rfl
 clear H hok;go_enter func146,ntmps146
 go_wp2_with fail;refine fJ.out.mono ?_;rintro e w1⟨R,n,c,rfl,-,hu⟩;clear fJ hc;go_wp2_with fail;refine(fS.out w1).mono ?_;rintro e w2⟨rfl,aq⟩;go_wp2_with fail;go_ret;exact⟨rfl,hu.trans aq⟩
theorem af8{B:Nat}{h:cQ}{w:World}(H:bD B h D0 w):
 Calls prog 95 #[.pointer (some ⟨h.g,0,none⟩)] w λe w'=>e= .returned (.bool true)/\aoV w w':=by
 have aQ:aoV w (w.alloc (.cells #[.pointer (some ⟨h.g,0,none⟩)] 60)):=(aoV.refl w).alloc _;have aL:=bp w (.cells #[.pointer (some ⟨h.g,0,none⟩)] 60);have c0:=aoW aL 0;have bU:=aoU (Jk (H.up aQ) Nb rfl);have bh:=aoU (λ(A:Option Addr)(c:Nat) W=>SF 146 #[.pointer (some ⟨w.heap.size,0,none⟩)] (λ_=>false) A 0 c [] W Rd.empty (by omega) (enters_of func146 (by kernel_rfl) rfl) (λW k hk _ _=>absurd hk (Nat.not_lt_zero _)));clear H aL;go_enter func95,ntmps95
 go_wp2_with fail;refine bU.out.mono ?_;rintro e w1⟨A,c,ss,rfl,hp,-,hu⟩;have SE:ss= []:=Mv hp;subst SE;simp only[List.length_nil];clear hp bU;go_wp2_with fail;refine(bh.out A c w1).mono ?_;rintro e w2⟨rfl,aq⟩;simp only[List.any_nil];go_wp2_with fail;go_ret;exact⟨rfl,(aQ.trans hu).trans aq⟩
theorem af9{B:Nat}{h:cQ}{d:aV}{w:World}(H:bD B h d w)(hok:dx d)(BA:d.dead=false)(hnm:d.names=jJ):
 Calls prog 95 #[.pointer (some ⟨h.g,0,none⟩)] w λe w'=>e= .returned (.bool false)/\aoV w w':=by
 have aQ:aoV w (w.alloc (.cells #[.pointer (some ⟨h.g,0,none⟩)] 60)):=(aoV.refl w).alloc _;have aL:=bp w (.cells #[.pointer (some ⟨h.g,0,none⟩)] 60);have c0:=aoW aL 0;have H1:=H.up aQ;have bU:=aoU (Jk H1 hok BA);have hC:∀(A:Option Addr)(c:Nat) W,aoV (w.alloc (.cells #[.pointer (some ⟨h.g,0,none⟩)] 60)) W->Rd W W.heap.size 1 A 3 (qd [ao3,dK,cT])->Calls prog 144 #[.slice A 3 c,.func (.func 146) #[] #[.pointer (some ⟨w.heap.size,0,none⟩)]] W λe w'=>e= .returned (.bool true)/\aoV W w':=λA c W hW hr=>
  SF 146 #[.pointer (some ⟨w.heap.size,0,none⟩)] (λ_=>true) A 3 c (qd [ao3,dK,cT]) W hr (by omega) (enters_of func146 (by kernel_rfl) rfl) (λW2 k hk h0 jc=>by
   rcases k with _|k
   .exact af7 (H1.up (hW.trans jc)) hok w.heap.size (aoW (aH (hW.trans jc) aL) 0)
   .exact absurd (h0 0 (by omega)) (by simp))
 have bh:=aoU hC;have ff:=aoU hnm;clear H aL H1 hC hnm hok;go_enter func95,ntmps95
 go_wp2_with fail;refine bU.out.mono ?_;rintro e w1⟨A,c,ss,rfl,hp,ho,hu⟩;rw[ff.out] at hp;have hl:=Sq hp;have hlen:ss.length=3:=by
  have:=(List.mergeSort_perm ss (λx y=>decide (x<=y))).length_eq;rw[hl] at this;exact this.symm
 rw[hl,hlen] at ho;rw[hlen];have mN:=aoU (bh.out A c w1 hu (Rd.own ho));clear hp bU hl hlen ho bh;go_wp2_with fail;refine mN.out.mono ?_;rintro e w2⟨rfl,aq⟩;go_wp2_with fail;go_ret;exact⟨rfl,(aQ.trans hu).trans aq⟩
theorem af'{B:Nat}{h:cQ}{w:World}{K:aD}(H:bD B h D0 w)(hv:iX w)(hB:sy.g 15<B)(qJ:B<=w.heap.size):
 Calls prog 62 #[.pointer (some ⟨h.g,0,none⟩)] w λe w'=>∃p:Sp,e= .returned (.tuple #[.pointer (some ⟨p.gs,0,none⟩),.int .i64 0])/\p.h.g=h.g/\vt B p nd0 K w'/\V.af (aJ h) w w'/\(∀k,ek p nd0 k->aJ h k\/w.heap.size<=k):=by
 have iT:=aoU (GY H);rw[show D0.dead=false from rfl] at iT;have fS:=aoU (af8 H);have bh:=aoU (λW (hW:aoV w W)=>afW (K:=K) (H.up hW) (hv.up hW) hB (bQ qJ hW.size));clear H hv hB qJ;go_enter func62,ntmps62
 go_wp2_with fail;refine iT.out.mono ?_;rintro e w1⟨rfl,rfl⟩;go_wp2_with fail;refine fS.out.mono ?_;rintro e w2⟨rfl,hu⟩;go_wp2_with fail;refine(bh.out w2 hu).mono ?_;rintro e w3⟨p,rfl,e1,e2,bG,bT⟩;have aga:=aoU e2;have apg:=aoU e1;clear e1 e2 bh fS iT;go_wp2_with fail;refine dm (v:= .tuple #[.pointer (some ⟨p.gs,0,none⟩),.int .i64 0]) (by simp[results,results62,go_sem]) rfl ?_;exact⟨p,rfl,apg.out,aga.out,ci (V.af.co hu) bG,λk hk=>(bT k hk).imp id (λh=>bQ hu.size h)⟩
def sA(a b c:Bool):ed:= .map ((if a=true then [(cC ao3,fp 1)] else [])++((if c=true then [(cC dK,fp 1)] else [])++(if b=true then [(cC cT,fp 1)] else [])))
theorem agb(b c:Bool):(sA false b c).put (cC ao3) (fp 1)=sA true b c:=by cases b <;>cases c <;>rfl
theorem agc(a c:Bool):(sA a false c).put (cC cT) (fp 1)=sA a true c:=by cases a <;>cases c <;>rfl
theorem agd(a b:Bool):(sA a b false).put (cC dK) (fp 1)=sA a b true:=by cases a <;>cases b <;>rfl
def jE(b:Bool):Nat:=if b=true then 1 else 0
theorem ap6{aT:Nat}{cs:Array Value}{s:ByteArray}{w:World}(h:w.heap[aT]?=some (.cells cs 255 (0,0)))(h1:cs[1]?=some (.string s)):
 Calls prog 249 #[.pointer (some ⟨aT,0,none⟩)] w λe w'=>e= .returned (.string s)/\w'=w:=by
 have c1:=(aoW h 1).trans h1;clear h h1;go_enter func249,ntmps249
 go_wp2_with fail;go_ret;exact⟨rfl,rfl⟩
structure SG(w0:World)(L:Nat->Bool)(vs:V.bY)(W:World):Prop where
 up:aoV w0 W
 map:L 0=true->∃g,vs 0= .map (some g)/\w0.heap.size<=g/\W.ownsMap prog 9 (plainElem prog 3) g (jE (L 1)+jE (L 4)+jE (L 8)) (sA (L 1) (L 4) (L 8))
 no:L 0=false->L 1=false/\L 4=false/\L 8=false/\L 9=false/\L 10=false
 m9:L 9=true->vs 9=vs 0
 m10:L 10=true->vs 10=vs 0
theorem SH{w0 W:World}{g n:Nat}{D:ed}(hu:aoV w0 W)(hg:w0.heap.size<=g)(hown:W.ownsMap prog 9 (plainElem prog 3) g n D)(hn:n<=5)(s:List UInt8)(hs:s.length<=100):
 ∃W',(Instr.mapUpdate 87 (.map (some g)) (.string (tx s)) (.int .i64 1)).run prog W= .ok () W'/\W'.ownsMap prog 9 (plainElem prog 3) g (n+1) (D.put (cC s) (fp 1))/\aoV w0 W':=by
 obtain⟨W',h1,h2,h3⟩:=hown.store pB underlying87 (by unfold maxLen;omega) (Ey s (by omega)) (plainElem_int underlying3 (WalkArith.wf_i64 (by omega)):plainElem prog 3 (.int .i64 1)=some (fp 1,[]));exact⟨W',h1,h2,gy.up hu (Hh h3.grown) hg⟩
theorem agf{aT:Nat}{cs:Array Value}{R:Option Addr}{rc aM ce a le:Nat}{w:World}(h:w.heap[aT]?=some (.cells cs 255 (0,0)))(h1:cs[1]?=some (.string (tx cT))):
 Calls prog 182 #[.agg #[.int .i64 1,.slice R 0 rc,.int .u64 aM,.int .u64 ce,.int .u64 a,.int .u64 le],.pointer (some ⟨aT,0,none⟩)] w λe w'=>∃g,e= .returned (.map (some g))/\w'.ownsMap prog 9 (plainElem prog 3) g 3 (sA true true true)/\aoV w w':=by
 obtain⟨wa,cM⟩:=bB (w.alloc (.cells #[.int .i64 1,.slice R 0 rc,.int .u64 aM,.int .u64 ce,.int .u64 a,.int .u64 le] 202))
 have aQ:aoV w wa:=by rw[cM];exact(aoV.refl w).alloc _
 have aL:wa.heap[w.heap.size]?=some (.cells #[.int .i64 1,.slice R 0 rc,.int .u64 aM,.int .u64 ce,.int .u64 a,.int .u64 le] 202 (0,0)):=by rw[cM];exact bp w _
 have hcell:∀W,aoV wa W->W.cell? ⟨w.heap.size,0,none⟩=some (.int .i64 1)/\W.cell? ⟨w.heap.size,1,none⟩=some (.slice R 0 rc):=λW hW=>by
  have e:=aH hW aL;exact⟨aoW e 0,aoW e 1⟩
 have Jt:=aoU (λW (hW:aoV wa W)=>ap6 (aH (aQ.trans hW) h) h1);have hnl:∀W,Calls prog 101 #[.string ⟨#[108,111,103]⟩,.int .i64 1] W λe w'=>e= .returned (.string (tx dK))/\w'=W:=λW=>Jd yr (.inl rfl) W
 have lz:=aoU hnl;have jK:=aoU cM;have cB:=aoU hcell;have yx:=aoU aQ;clear cM hcell aQ aL h h1 hnl;go_enter func182,ntmps182
 go_upto_region 1 with fail
 rw[<- jK.out];apply V.NB (SG wa) (by kernel_rfl) (by kernel_rfl) (λL vs h0=>⟨aoV.drew (aoV.refl wa),(λh=>by rw[h0] at h;cases h),λ_=>⟨h0 1,h0 4,h0 8,h0 9,h0 10⟩,(λh=>by rw[h0] at h;cases h),(λh=>by rw[h0] at h;cases h)⟩)
 .intro aF aoX;apply V.cE.cG [];rfl
  .intro L vs W hk hps hS K hK;obtain⟨l1,l4,agh,agi,l10⟩:=hS.no hk;have hu:=hS.up;have hal:aoV W (W.alloc (.map #[] 0)):=(aoV.refl W).alloc _;have hmap:(W.alloc (.map #[] 0)).ownsMap prog 9 (plainElem prog 3) W.heap.size (jE (V.dE L 0 1)+jE (V.dE L 0 4)+jE (V.dE L 0 8)) (sA (V.dE L 0 1) (V.dE L 0 4) (V.dE L 0 8)):=by
    rw[V.kR L (show 1≠0 by decide),V.kR L (show 4≠0 by decide),V.kR L (show 8≠0 by decide),l1,l4,agh];exact World.ownsMap_made W prog 9 (plainElem prog 3)
   have aK:=aoU (hK.out (.map (some W.heap.size)) (W.alloc (.map #[] 0)) ⟨hu.trans hal,λ_=>⟨W.heap.size,by rw[V.eV],hu.size,hmap⟩,λh=>absurd (V.FV L 0) (by rw[h];decide),λh=>absurd (show L 9=true from h) (by rw[agi];decide),λh=>absurd (show L 10=true from h) (by rw[l10];decide)⟩);have l8:= @run_makeMap prog;clear hK hmap hS
   (try dsimp only at aK|-)
   go_simp;exact aK.out
  simp only[au,Nat.reduceAdd];apply V.cE.call undef [0];rfl
  .intro L vs W hk hps hS K hK;obtain⟨g,hv,hg,ho⟩:=hS.map (hps 0 gN);have xm:L 0=true:=hps 0 gN;have hn:jE (L 1)+jE (L 4)+jE (L 8)<=5:=by unfold jE;split <;>split <;>split <;>omega
   obtain⟨W',r1,r2,r3⟩:=SH hS.up hg ho hn ao3 (by decide);rw[hk] at r2;rw[agb] at r2;rw[show tx ao3=(⟨#[99,117,114,114,101,110,116]⟩:ByteArray) from rfl] at r1;have hmap:W'.ownsMap prog 9 (plainElem prog 3) g (jE (V.dE L 1 1)+jE (V.dE L 1 4)+jE (V.dE L 1 8)) (sA (V.dE L 1 1) (V.dE L 1 4) (V.dE L 1 8)):=by
    rw[V.FV,V.kR L (show 4≠1 by decide),V.kR L (show 8≠1 by decide)];have e:jE true=1:=rfl;have e0:jE false=0:=rfl;rw[e0] at r2;rw[e];first
     |exact r2
     |(rw[show∀x y:Nat,1+x+y=0+x+y+1 from λx y=>by omega];exact r2)
   have aK:=aoU (hK.out W' ⟨r3,λ_=>⟨g,hv,hg,hmap⟩,λh=>absurd (show V.dE L 1 0=true from xm) (by rw[h];decide),hS.m9,hS.m10⟩);have uB:=r1;clear hK r1 hmap r2 hS
   (try dsimp only at aK|-)
   rw[hv] at aK|-;clear hv;go_simp;exact aK.out
  simp only[au,Nat.reduceAdd];apply V.cE.ok []
  .intro L vs W hp hS;obtain⟨d0,d1⟩:=cB.out W hS.up;clear hS;go_simp
   (try with_reducible rfl)
  .exact λL vs W h=>⟨h.up,h.map,h.no,h.m9,h.m10⟩
  .rfl
  simp only[au,Nat.reduceAdd];apply V.cE.call (.string (tx cT)) [];rfl
  .intro L vs W hk hps hS K hK;have bh:=aoU (Jt.out W hS.up);have hnext:SG wa (V.dE L 3) vs W:=⟨hS.up,hS.map,hS.no,hS.m9,hS.m10⟩
   have IU:=aoU hnext;clear hnext hS
   (try dsimp only)
   go_simp;refine bh.out.mono ?_;rintro e W2⟨rfl,rfl⟩;exact hK.out _ IU.out
  simp only[au,Nat.reduceAdd];apply V.cE.call undef [0];rfl
  .intro L vs W hk hps hS K hK;obtain⟨g,hv,hg,ho⟩:=hS.map (hps 0 gN);have xm:L 0=true:=hps 0 gN;have hn:jE (L 1)+jE (L 4)+jE (L 8)<=5:=by unfold jE;split <;>split <;>split <;>omega
   obtain⟨W',r1,r2,r3⟩:=SH hS.up hg ho hn cT (by decide);rw[hk] at r2;rw[agc] at r2;have hmap:W'.ownsMap prog 9 (plainElem prog 3) g (jE (V.dE L 4 1)+jE (V.dE L 4 4)+jE (V.dE L 4 8)) (sA (V.dE L 4 1) (V.dE L 4 4) (V.dE L 4 8)):=by
    rw[V.FV,V.kR L (show 1≠4 by decide),V.kR L (show 8≠4 by decide)];have e:jE true=1:=rfl;have e0:jE false=0:=rfl;rw[e0] at r2;rw[e];first
     |exact r2
     |(rw[show∀x y:Nat,x+1+y=x+0+y+1 from λx y=>by omega];exact r2)
   have aK:=aoU (hK.out W' ⟨r3,λ_=>⟨g,hv,hg,hmap⟩,λh=>absurd (show V.dE L 4 0=true from xm) (by rw[h];decide),hS.m9,hS.m10⟩);have uB:=r1;clear hK r1 hmap r2 hS
   (try dsimp only at aK|-)
   rw[hv] at aK|-;clear hv;go_simp;exact aK.out
  simp only[au,Nat.reduceAdd];apply V.cE.ok []
  .intro L vs W hp hS;obtain⟨d0,d1⟩:=cB.out W hS.up;clear hS;go_simp
   (try with_reducible rfl)
  .exact λL vs W h=>⟨h.up,h.map,h.no,h.m9,h.m10⟩
  .rfl
  simp only[au,Nat.reduceAdd];apply V.cE.ok []
  .intro L vs W hp hS;obtain⟨d0,d1⟩:=cB.out W hS.up;clear hS;go_simp
   (try with_reducible rfl)
  .exact λL vs W h=>⟨h.up,h.map,h.no,h.m9,h.m10⟩
  .rfl
  simp only[au,Nat.reduceAdd];apply V.cE.call (.string (tx dK)) [];rfl
  .intro L vs W hk hps hS K hK;have bh:=aoU (lz.out W);have hnext:SG wa (V.dE L 7) vs W:=⟨hS.up,hS.map,hS.no,hS.m9,hS.m10⟩
   have IU:=aoU hnext;clear hnext hS
   (try dsimp only)
   go_simp;refine bh.out.mono ?_;rintro e W2⟨rfl,rfl⟩;exact hK.out _ IU.out
  simp only[au,Nat.reduceAdd];apply V.cE.call undef [0];rfl
  .intro L vs W hk hps hS K hK;obtain⟨g,hv,hg,ho⟩:=hS.map (hps 0 gN);have xm:L 0=true:=hps 0 gN;have hn:jE (L 1)+jE (L 4)+jE (L 8)<=5:=by unfold jE;split <;>split <;>split <;>omega
   obtain⟨W',r1,r2,r3⟩:=SH hS.up hg ho hn dK (by decide);rw[hk] at r2;rw[agd] at r2;have hmap:W'.ownsMap prog 9 (plainElem prog 3) g (jE (V.dE L 8 1)+jE (V.dE L 8 4)+jE (V.dE L 8 8)) (sA (V.dE L 8 1) (V.dE L 8 4) (V.dE L 8 8)):=by
    rw[V.FV,V.kR L (show 1≠8 by decide),V.kR L (show 4≠8 by decide)];have e:jE true=1:=rfl;have e0:jE false=0:=rfl;rw[e0] at r2;rw[e];first
     |exact r2
     |(rw[show∀x y:Nat,x+y+1=x+y+0+1 from λx y=>by omega];exact r2)
   have aK:=aoU (hK.out W' ⟨r3,λ_=>⟨g,hv,hg,hmap⟩,λh=>absurd (show V.dE L 8 0=true from xm) (by rw[h];decide),hS.m9,hS.m10⟩);have uB:=r1;clear hK r1 hmap r2 hS
   (try dsimp only at aK|-)
   rw[hv] at aK|-;clear hv;go_simp;exact aK.out
  simp only[au,Nat.reduceAdd];apply V.cE.cG [0];rfl
  .intro L vs W hk hps hS K hK;have xm:L 0=true:=hps 0 gN;obtain⟨g,hv,hg,ho⟩:=hS.map xm;have aK:=aoU (hK.out (vs 0) W ⟨hS.up,λ_=>⟨g,hv,hg,ho⟩,λh=>absurd (show V.dE L 9 0=true from xm) (by rw[h];decide),λh=>rfl,λh=>hS.m10 h⟩)
   skip
   clear hK hS
   (try dsimp only at aK|-)
   rw[hv] at aK|-;go_simp;exact aK.out
  simp only[au,Nat.reduceAdd];apply V.cE.cG [0,9];rfl
  .intro L vs W hk hps hS K hK;have xm:L 0=true:=hps 0 gN;obtain⟨g,hv,hg,ho⟩:=hS.map xm;have aK:=aoU (hK.out (vs 0) W ⟨hS.up,λ_=>⟨g,hv,hg,ho⟩,λh=>absurd (show V.dE L 10 0=true from xm) (by rw[h];decide),λh=>hS.m9 h,λh=>rfl⟩);have h9:=hS.m9 (hps 9 (kS _ gN));clear hK hS
   (try dsimp only at aK|-)
   rw[h9,hv] at aK|-;go_simp;exact aK.out
  simp only[au,Nat.reduceAdd];apply V.cE.fin;intro L vs W hL hS;obtain⟨g,hv,hg,ho⟩:=hS.map (hL 0 (by decide));rw[hL 1 (by decide),hL 4 (by decide),hL 8 (by decide)] at ho;have h9:=hS.m9 (hL 9 (by decide));have h10:=hS.m10 (hL 10 (by decide));obtain⟨d0,d1⟩:=cB.out W hS.up;have vH:=yx.out.trans hS.up;refine aoX.out _ _ ?_;clear aoX hS
  (try dsimp only)
  rw[h10,hv];clear h10 h9 hv;have cO:=aoU ho;clear ho;go_wp2_with fail;go_loopw[18] (λi wr=>i= .int .i64 0/\wr=W) (λi _=>0)
  case atStart=>exact⟨rfl,rfl⟩
  case round=>
   obtain⟨rfl,rfl⟩:=hrel;go_wp2_with fail;go_ret;exact⟨g,rfl,cO.out,vH⟩
 .kernel_rfl
end
section
open Go.RowKit
theorem JP:(cU 1).length=1:=by rw[yZ (by decide)];rfl
theorem Td:jm.length=13:=by unfold jm;rw[AJ,JP]
theorem ag6:wN jm 0=(0,8,cU 1,((13:Nat):Int)):=by
 have h:=aa6 [] 8 (cU 1) [] (by decide) (by decide) (by rw[JP];decide);rw[List.append_nil,gY,JP] at h;exact h
theorem ag7:gS (cU 1)=(1,1,0):=by
 have h:=L5 1 [] (by decide);rw[List.append_nil,JP] at h;exact h
theorem ag8:JJ v0 ([],[],1,0,0,0,0)=some (1,[],0,0,0,0):=by rfl
theorem ag9:DH fY=some ((1,[],0,0,0,0),1,fY.length):=by
 obtain⟨b,hb⟩:=bB (qu [] [] 1 0 0 0 0)
 have hm:fY=lF ((6:Nat):Int) b:=by rw[hb];rfl
 have hl:fY.length=b.length+12:=by rw[hm,AJ]
 have ag':=FP;have ht:ey fY=(0,6,b,b.length+12):=by
  have:=W8 6 b [] (by decide) (by decide) (by omega);rw[List.append_nil,<- hm] at this;exact this
 have hs:li fY=([6],[b],fY.length,0):=by
  unfold li;rw[show fY.length+1=(fY.length-1)+1+1 by omega];unfold mA;rw[if_pos (by omega),List.drop_zero,ht];dsimp only;rw[if_pos rfl];unfold mA;rw[if_neg (by omega)];simp[hl]
 have hr:pi b=some ([],[],1,0,0,0,0):=by rw[hb];exact agS qn
 unfold DH;rw[hs];dsimp only;rw[if_neg (by simp)];unfold ro vL;rw[if_pos rfl,hr,Option.bind_some,ag8];rfl
end
section
open Go.RowKit Go.Maps
theorem aha{B cs:Nat}{h:cQ}{w:World}(H:bD B h (fg [] 0 fY fY.length jm cs) w):
 Calls prog 97 #[.pointer (some ⟨h.g,0,none⟩)] w λe w'=>∃aT R rc,e= .returned (.tuple #[.pointer (some ⟨aT,0,none⟩),.bool false,.int .i64 0])/\w'.heap[aT]?=some (.cells (yv h.g R rc cT 1) 255 (0,0))/\w.heap.size<=aT/\aoV w w':=by
 have hm0:=FP;obtain⟨ml,hml⟩:=bB fY.length
 have hok:dx (fg [] 0 fY fY.length jm cs):=AC _ _ _ _ _ _ (by decide) (by decide) (by omega) (by omega) (by rw[Td];decide);have fJ:=aoU (λW (hW:aoV w W)=>Hn (H.up hW) hok ao3 (by decide));rw[pq,show tx ao3=(⟨#[99,117,114,114,101,110,116]⟩:ByteArray) from rfl] at fJ;have sX:=aoU (λW (hW:aoV w W)=>Hn (H.up hW) hok cT (by decide));rw[x6] at sX;have NO:=aoU (show ml<=100 by rw[hml];exact hm0);have JQ:=aoU hml;clear H hok hm0 hml;have bN:=aoU (fJ.out w (aoV.refl w));go_enter func97,ntmps97
 go_wp2_with fail;refine bN.out.mono ?_;rintro e w1⟨fX,n1,c1,rfl,gu,hu1⟩;rw[show((((jm,0):List UInt8×Nat).2:Nat):Int)=0 from rfl];have fj:n1=13:=by rw[(Rd.own gu).gO];exact Td
 have hc1:n1<=c1:=sH gu;have fk:=aoU (aaM fX n1 c1 jm 0 w1 (Rd.own gu) (by omega) hc1);rw[ag6] at fk;subst fj;clear fJ bN gu;go_wp2_with fail;refine fk.out.mono ?_;rintro e w2⟨iA,n2,c2,rfl,qk,aq⟩
 (try dsimp only at qk)
 have hn2:n2=1:=by rw[(Rd.own qk).gO];exact JP
 subst hn2;have ff:=aoU (apy iA 1 c2 (cU 1) w2 (Rd.own qk) (by omega));rw[ag7] at ff;have mY:=aoU (λW=>Jd oD (.inr (.inr rfl)) W);rw[show oD++[46,49]=cT from rfl,show tx oD=(⟨#[109,97,110]⟩:ByteArray) from rfl] at mY;have sm:=hu1.trans aq;clear fk qk;simp only[show((8:Nat):Int)=8 from rfl,show((0:Nat):Int)=0 from rfl,show((13:Nat):Int)=13 from rfl,show((1:Nat):Int)=1 from rfl] at *;go_wp2_with fail;refine ff.out.mono ?_;rintro e w3⟨rfl,rfl⟩;clear ff;go_wp2_with fail;refine(mY.out _).mono ?_;rintro e w4⟨rfl,rfl⟩
 have EE:=aoU (sX.out _ sm);clear mY sX;go_wp2_with fail;refine EE.out.mono ?_;rintro e ai⟨kC,n5,c5,rfl,rT,cI⟩
 (try dsimp only at rT)
 have AF:n5=ml:=by rw[JQ.out];exact(Rd.own rT).gO
 have ag':n5<=100:=by rw[AF];exact NO.out
 have cd:=aoU (agX kC n5 c5 fY ai (Rd.own rT) (by omega) (sH rT));rw[ag9,<- JQ.out] at cd;subst AF;have NP:=sm.trans cI;clear EE rT;simp only[show((0:Nat):Int)=0 from rfl];go_wp2_with fail;refine cd.out.mono ?_;rintro e cH⟨bZ,rn,dC,rfl,RC,hrc,-,eZ,-⟩;have jW:rn=0:=RC.ly;subst jW;have e6:vcs ((1,[],0,0,0,0):oy) bZ 0 dC= #[.int .i64 1,.slice bZ 0 dC,.int .u64 0,.int .u64 0,.int .u64 0,.int .u64 0]:=rfl;simp only[e6,show((1:Nat):Int)=1 from rfl]
 obtain⟨wb,cN⟩:=bB (cH.alloc (.cells #[.int .i64 0,.slice none 0 0,.int .u64 0,.int .u64 0,.int .u64 0,.int .u64 0] 202))
 have aX:aoV cH wb:=by rw[cN];exact(aoV.refl cH).alloc _
 have hy:wb.heap[cH.heap.size]?=some (.cells #[.int .i64 0,.slice none 0 0,.int .u64 0,.int .u64 0,.int .u64 0,.int .u64 0] 202 (0,0)):=by rw[cN];exact bp cH _
 have iD:=aoU cN;have K2:=NP.trans eZ;clear cN cd e6 RC;go_wp2_with (first
  |(
   with_reducible show wpList _ _ _ (⟨none,.store 202 _ _,_,_,_,none⟩::_) _ _
   rw[<- iD.out];go_loud (refine nW rfl 202 _ _ rfl (g:=cH.heap.size) (cells:= #[.int .i64 1,.slice bZ 0 dC,.int .u64 0,.int .u64 0,.int .u64 0,.int .u64 0]) (by kernel_rfl) (by kernel_rfl) hy vy rfl (by simp[Value.oneCell']) ?_)
   intro dY hgd dF;have ao':aoV w dY:=gy.up (K2.trans aX) dF K2.size;obtain⟨e0,e1,e2,bG,bT,dt⟩:=iQ hgd;clear hgd dF iD hy aX))
 refine dm (v:= .tuple #[.pointer (some ⟨dY.heap.size,0,none⟩),.bool false,.int .i64 0]) (by simp[results,results97,go_sem]) rfl ?_;exact⟨dY.heap.size,bZ,dC,rfl,bp dY _,ao'.size,ao'.trans ((aoV.refl dY).alloc _)⟩
theorem ahb(k:Nat)(hk:k<3)(s:List UInt8)(hs: [ao3,dK,cT][k]?=some s):(sA true true true).atKey (cC s) (.lit (.int .i64 0))= .lit (.int .i64 1):=by
 rcases k with _|_|_|k
 .injection hs with hs;subst hs;rfl
 .injection hs with hs;subst hs;rfl
 .injection hs with hs;subst hs;rfl
 .omega
theorem ahc{w w':World}{k:TypeId}{R:Value->Option (ed×List MemPlace)}{b n:Nat}{D:ed}(h:w.ownsMap prog k R b n D)(hu:aoV w w'):w'.ownsMap prog k R b n D:=by
 obtain⟨es,clock,hb,F,hs,hD⟩:=h;exact⟨es,clock,aH hu hb,F,hs,hD⟩
theorem ahd(k:Nat)(hk:k<3)(s:List UInt8)(hs: [ao3,dK,cT][k]?=some s)(w:World)(hv:iX w):Calls prog 148 #[.string (tx s)] w λe w'=>e= .returned (.bool true)/\aoV w w':=by
 rcases k with _|_|_|k
 .injection hs with hs;subst hs;exact Pr w
 .injection hs with hs;subst hs;exact en dK (.inl rfl) w hv
 .injection hs with hs;subst hs;exact en cT (.inr rfl) w hv
 .omega
theorem ahe{B:Nat}{h:cQ}{D:aV}{gs aT rc:Nat}{R:Option Addr}{cs:Array Value}{w:World}(H:bD B h D w)(hok:dx D)(BA:D.dead=false)(hnm:D.names=jJ)(hs:w.heap[gs]?=some (.cells cs 168 (0,0)))(h0:cs[0]?=some (.pointer (some ⟨h.g,0,none⟩)))(h1:cs[1]?=some (.pointer (some ⟨aT,0,none⟩)))(hm:w.heap[aT]?=some (.cells (yv h.g R rc cT 1) 255 (0,0)))(hv:iX w):
 Calls prog 112 #[.pointer (some ⟨gs,0,none⟩)] w λe w'=>e= .returned (.tuple #[])/\aoV w w':=by
 have hcell:∀W,aoV w W->W.cell? ⟨gs,0,none⟩=some (.pointer (some ⟨h.g,0,none⟩))/\W.cell? ⟨gs,1,none⟩=some (.pointer (some ⟨aT,0,none⟩)):=λW hW=>by
  have e:=aH hW hs;exact⟨(aoW e 0).trans h0,(aoW e 1).trans h1⟩
 have JR:∀W,aoV w W->Calls prog 99 #[.pointer (some ⟨aT,0,none⟩)] W λe w'=>∃R rc,e= .returned (.agg #[.int .i64 1,.slice R 0 rc,.int .u64 ((0:Nat):Int),.int .u64 ((0:Nat):Int),.int .u64 ((0:Nat):Int),.int .u64 ((0:Nat):Int)])/\aoV W w':=λW hW=>by
  have e:W.heap[aT]?=some (.cells (uv ⟨h,gs,aT,0,0,0,0,0,none,0,R,rc⟩ nd0) 255 (0,0)):=aH hW hm;exact Rm (p:=⟨h,gs,aT,0,0,0,0,0,none,0,R,rc⟩) (d:=nd0) e
 have NQ:=aoU JR;have mY:=aoU (λ(W:World)(hW:aoV w W)(uC:Option Addr)(vO:Nat)=>agf (R:=uC) (rc:=vO) (aM:=0) (ce:=0) (a:=0) (le:=0) (aH hW hm) rfl);have oN:=aoU (λW (hW:aoV w W)=>Jk (H.up hW) hok BA);have cB:=aoU hcell;have cd:=aoU hv;have ff:=aoU hnm;clear H hok BA hnm hs h0 h1 hm hv hcell JR;go_enter func112,ntmps112
 go_upto_region 0 with fail
 apply V.iE (λi vs W=>aoV w W/\(i=1->∃uC vO,vs 4= .agg #[.int .i64 1,.slice uC 0 vO,.int .u64 ((0:Nat):Int),.int .u64 ((0:Nat):Int),.int .u64 ((0:Nat):Int),.int .u64 ((0:Nat):Int)])/\
  (i=2->∃g,vs 9= .map (some g)/\W.ownsMap prog 9 (plainElem prog 3) g 3 (sA true true true))/\(i=3->∃g,vs 10= .map (some g)/\W.ownsMap prog 9 (plainElem prog 3) g 3 (sA true true true))) (by kernel_rfl) (by kernel_rfl) (λvs=>⟨aoV.drew (aoV.refl w),λe=>absurd e (by decide),λe=>absurd e (by decide),λe=>absurd e (by decide)⟩)
 .intro aF aoX;iterate 4 (apply V.az.ok;(· intro i vs ai hS;obtain⟨d0,d1⟩:=cB.out ai hS.1;clear hS;go_simp;(try with_reducible rfl));(· rfl);simp only[au,Nat.reduceAdd])
  apply V.az.cG;rfl
  .intro vs ag hS cY ah;obtain⟨k1,-⟩:=hS;have bh:=aoU (NQ.out ag k1)
   (try dsimp only)
   go_simp;refine bh.out.mono ?_;rintro e ai⟨uC,vO,rfl,hu⟩;exact ah.out _ _ ⟨k1.trans hu,λ_=>⟨uC,vO,by rw[V.eV]⟩,λe=>absurd e (by decide),λe=>absurd e (by decide)⟩
  simp only[au,Nat.reduceAdd];iterate 4 (apply V.az.ok;(· intro i vs ai hS;obtain⟨d0,d1⟩:=cB.out ai hS.1;clear hS;go_simp;(try with_reducible rfl));(· rfl);simp only[au,Nat.reduceAdd])
  apply V.az.cG;rfl
  .intro vs ag hS cY ah;obtain⟨k1,k2,-⟩:=hS;obtain⟨uC,vO,Gf⟩:=k2 rfl;have bh:=aoU (mY.out ag k1 uC vO);have Te:=aoU ah.out;clear ah k2
   (try dsimp only at Te|-)
   rw[Gf] at Te|-;clear Gf;go_simp;refine bh.out.mono ?_;rintro e ai⟨g,rfl,ho,hu⟩;exact Te.out _ _ ⟨k1.trans hu,λe=>absurd e (by decide),λ_=>⟨g,by rw[V.eV],ho⟩,λe=>absurd e (by decide)⟩
  simp only[au,Nat.reduceAdd];apply V.az.cG;rfl
  .intro vs ag hS cY ah;obtain⟨k1,-,k2,-⟩:=hS;obtain⟨g,qw,ho⟩:=k2 rfl;have aK:=aoU (ah.out (.map (some g)) ag ⟨k1,λe=>absurd e (by decide),λe=>absurd e (by decide),λ_=>⟨g,by rw[V.eV],ho⟩⟩);clear ah k2 ho
   (try dsimp only at aK|-)
   rw[qw] at aK|-;clear qw;go_simp;exact aK.out
  simp only[au,Nat.reduceAdd];apply V.az.fin;intro vs w1 hS;obtain⟨hu1,-,-,k2⟩:=hS;obtain⟨g,xt,ho⟩:=k2 rfl;obtain⟨d0,d1⟩:=cB.out w1 hu1;have bU:=aoU (oN.out w1 hu1);refine aoX.out _ _ ?_;clear aoX k2
  (try dsimp only)
  rw[xt];have cO:=aoU ho;clear ho xt;generalize vs 4=oe at *;generalize vs 9=Tf at *;go_wp2_with fail;refine bU.out.mono ?_;rintro e tL⟨A,c,ss,rfl,hp,DE,fL⟩;rw[ff.out] at hp;have hl:=Sq hp;have hlen:ss.length=3:=by
   have:=(List.mergeSort_perm ss (λx y=>decide (x<=y))).length_eq;rw[hl] at this;exact this.symm
  rw[hl,hlen] at DE;rw[hlen];have Jp:Rd tL tL.heap.size 1 A 3 (qd [ao3,dK,cT]):=Rd.own DE;have sm:=hu1.trans fL;have Sz:=aoU (cd.out.up sm);have SA:=aoU Jp;clear hp hl hlen DE Jp bU;go_wp2_with fail;go_loopw[21] (λi wr=>∃k:Nat,i= .int .i64 k/\k<=3/\aoV tL wr) (λi _=>3-(intOf i).toNat)
  case atStart=>exact⟨0,rfl,by omega,aoV.refl tL⟩
  case round=>
   obtain⟨k,rfl,hk,hu⟩:=hrel;by_cases iy:k<3
   .obtain⟨s,hs⟩:∃s,[ao3,dK,cT][k]?=some s:=⟨_,dh iy⟩
    obtain⟨b,o,rfl,iW,fK⟩:=nk (SA.out.up hu) (i:=k) iy;have hcs:wr.cell? ⟨b,o+k,none⟩=some (.string (tx s)):=by
     rw[fK];have: [ao3,dK,cT][k]=s:=by rw[dh iy] at hs;injection hs
     rw[this]
    have AG:s.length<=1000:=by
     rcases k with _|_|_|k
     .injection hs with hs;subst hs;decide
     .injection hs with hs;subst hs;decide
     .injection hs with hs;subst hs;decide
     .omega
    have fS:=aoU (ahd k iy s hs wr (Sz.out.up hu));have ahf:=aoU (ahb k iy s hs);have hlk:∀W,aoV tL W->(Instr.lookup 87 (.map (some g)) (.string (tx s)) false).run prog W= .ok (.int .i64 1) W:=λW hW=>by
     obtain⟨c,hrun,hat,-⟩:=(ahc cO.out (fL.trans hW)).lookup_int pB underlying87 underlying3 (G' _) (Ey s (by omega));rw[ahf.out] at hat;injection hat with hat;injection hat with _ hat;rw[hrun,<- hat]
    have ahg:=aoU hlk;clear hs iW fK AG hlk;go_upto_region 4 with fail
    go_wp2_with (go_at_call 148;with_reducible refine fS.out.mono ?_;rintro e Jq⟨rfl,Nv⟩;have hlk:=ahg.out Jq (hu.trans Nv))
    exact⟨⟨k+1,by rw[Int.natCast_succ],by omega,hu.trans Nv⟩,by simp only[intOf];omega⟩
   .have jN:k=3:=by omega
    subst jN;go_wp2_with fail;exact bodyPost_end (kV rfl _ _ _) rfl ⟨rfl,sm.trans hu⟩
 .kernel_rfl
def Gg(cs:Nat):bA:= { nd0 with cs:=cs }
theorem ahj{B cs:Nat}{h:cQ}{w:World}{K:aD}(H:bD B h (fg [] 0 fY fY.length jm cs) w)(hv:iX w)(qJ:B<=w.heap.size):
 Calls prog 62 #[.pointer (some ⟨h.g,0,none⟩)] w λe w'=>∃p:Sp,e= .returned (.tuple #[.pointer (some ⟨p.gs,0,none⟩),.int .i64 0])/\p.h=h/\vt B p (Gg cs) K w'/\aoV w w'/\(∀k,ek p (Gg cs) k->aJ h k\/w.heap.size<=k):=by
 have hm0:=FP;have hok:dx (fg [] 0 fY fY.length jm cs):=AC _ _ _ _ _ _ (by decide) (by decide) (by omega) (by omega) (by rw[Td];decide);have iT:=aoU (GY H);rw[show(fg [] 0 fY fY.length jm cs).dead=false from rfl] at iT;have fS:=aoU (af9 H hok rfl rfl);have dr:=aoU H;have cd:=aoU hv;have n8:=aoU hok;clear H hv hm0 hok;go_enter func62,ntmps62
 go_wp2_with fail;refine iT.out.mono ?_;rintro e w1⟨rfl,rfl⟩;go_wp2_with fail;refine fS.out.mono ?_;rintro e w2⟨rfl,aq⟩;have bU:=aoU (aha (dr.out.up aq));clear fS iT;go_wp2_with fail;refine bU.out.mono ?_;rintro e w3⟨aT,vf,EN,rfl,lB,Js,bV⟩;have zL:=aq.trans bV;have qF:=aoU (q3 (B:=B) w3 (bQ qJ zL.size));have Tg:=aoU lB;have anC:w1.heap.size<=aT:=bQ aq.size Js;clear lB bU;go_wp2_with fail;refine qF.out.mono ?_;rintro e w4⟨dX,dy,bO,cf,rfl,r8,m1,m2,m3,m4,eO⟩
 obtain⟨wa,cM⟩:=bB (w4.alloc (.cells #[.pointer (some ⟨h.g,0,none⟩),.pointer (some ⟨aT,0,none⟩),.pointer none,.pointer (some ⟨dX,0,none⟩),.slice none 0 0,.slice none 0 0,.int .i64 0,.int .u32 0,.int .i32 0,.int .u32 0,.bool false] 168))
 have aQ:aoV w4 wa:=by rw[cM];exact(aoV.refl w4).alloc _
 have vr:wa.heap[w4.heap.size]?=some (.cells #[.pointer (some ⟨h.g,0,none⟩),.pointer (some ⟨aT,0,none⟩),.pointer none,.pointer (some ⟨dX,0,none⟩),.slice none 0 0,.slice none 0 0,.int .i64 0,.int .u32 0,.int .i32 0,.int .u32 0,.bool false] 168 (0,0)):=by rw[cM];exact bp w4 _
 have jK:=aoU cM;have e7:=eO.trans aQ;have JR:Calls prog 99 #[.pointer (some ⟨aT,0,none⟩)] wa λe w'=>∃R rc,e= .returned (.agg #[.int .i64 1,.slice R 0 rc,.int .u64 0,.int .u64 0,.int .u64 0,.int .u64 0])/\aoV wa w':=by
  have e:wa.heap[aT]?=some (.cells (uv ⟨h,0,aT,0,0,0,0,0,none,0,vf,EN⟩ nd0) 255 (0,0)):=aH e7 Tg.out;exact Rm (p:=⟨h,0,aT,0,0,0,0,0,none,0,vf,EN⟩) (d:=nd0) e
 have NQ:=aoU JR;have xh:=aoU r8;clear cM JR r8 qF;go_upto_region 11 with fail
 rw[<- jK.out];have Ju:w1.heap.size<=w4.heap.size:=bQ zL.size eO.size;go_wp2_with fail;refine NQ.out.mono ?_;rintro e ai⟨uj,wP,rfl,cI⟩;obtain⟨wb,cN⟩:=bB (ai.alloc (.cells #[.int .i64 0,.slice none 0 0,.int .u64 0,.int .u64 0,.int .u64 0,.int .u64 0] 202))
 have aX:aoV ai wb:=by rw[cN];exact(aoV.refl ai).alloc _
 have hy:wb.heap[ai.heap.size]?=some (.cells #[.int .i64 0,.slice none 0 0,.int .u64 0,.int .u64 0,.int .u64 0,.int .u64 0] 202 (0,0)):=by rw[cN];exact bp ai _
 have iD:=aoU cN;clear cN NQ jK;go_upto_region 12 with (first
  |(
   with_reducible show wpList _ _ _ (⟨none,.store 202 _ _,_,_,_,none⟩::_) _ _
   rw[<- iD.out];go_loud (refine nW rfl 202 _ _ rfl (g:=ai.heap.size) (cells:= #[.int .i64 1,.slice uj 0 wP,.int .u64 0,.int .u64 0,.int .u64 0,.int .u64 0]) (by kernel_rfl) (by kernel_rfl) hy vy rfl (by simp[Value.oneCell']) ?_)
   intro dY hgd dF))
 have apK:aoV wa dY:=gy.up (cI.trans aX) dF cI.size;have r5:=e7.trans apK;have Bj:=zL.trans r5;have e0:=aoW hgd 0;have lz:=aoU (Jd yr (.inl rfl) dY);rw[show yr++[46,49]=dK from rfl,show tx yr=(⟨#[108,111,103]⟩:ByteArray) from rfl] at lz;have ga:=aoU (ahi (dr.out.up Bj) n8.out dK (by decide) (y7 _ _ _ _ _ _));have M1:=aoU hgd;clear hgd dF aX hy iD;go_wp2_with fail;refine lz.out.mono ?_;rintro e ag⟨rfl,rfl⟩;go_wp2_with fail;refine ga.out.mono ?_;rintro e je⟨gl,rfl,b5,eG,yd⟩;have ub:=aH yd M1.out
 obtain⟨f0,f1,f2,f3,f4,f5⟩:=iQ ub;generalize anD:w4.heap.size=gs at *;have JI:=aoU (ael gs uj wP 0 0 0 0 je);rw[show((0:Nat):Int)=0 from rfl] at JI;have anE:w1.heap.size<=gl:=bQ Bj.size eG;have ahk:=aoU b5;clear b5 ga lz ub e0 M1;go_wp2_with fail;refine JI.out.mono ?_;rintro e fE⟨rfl,NR⟩;have Ti:=(apK.trans yd).trans NR;have NS:=aH Ti vr;have g2:fE.cell? ⟨gs,2,none⟩=some (.pointer none):=aoW NS 2
 have z2:=ay NS 2;have hx2:=bM fE gs 2 (.pointer (some ⟨gl,0,none⟩)) _ _ NS;have hk2:V.af (λk=>k=gs) fE (fE.setCell ⟨gs,2,none⟩ (.pointer (some ⟨gl,0,none⟩))):=aoZ _ _ gs 2 _ (V.af.refl _ _);have hx3:(fE.setCell ⟨gs,2,none⟩ (.pointer (some ⟨gl,0,none⟩))).heap[gs]?=some (.cells #[.pointer (some ⟨h.g,0,none⟩),.pointer (some ⟨aT,0,none⟩),.pointer (some ⟨gl,0,none⟩),.pointer (some ⟨dX,0,none⟩),.slice none 0 0,.slice none 0 0,.int .i64 0,.int .u32 0,.int .i32 0,.int .u32 0,.bool false] 168 (0,0)):=hx2;have DC:=aoU hx3;have uI:=aoU hk2
 have ahl:=aoU Ti;clear f0 f1 f2 f3 f4 f5 JI hx2 hx3 hk2 NS Ti;go_upto_region 16 with fail
 generalize fE.setCell ⟨gs,2,none⟩ (.pointer (some ⟨gl,0,none⟩))=tL at *;have g4:tL.cell? ⟨gs,4,none⟩=some (.slice none 0 0):=aoW DC.out 4;have A5:=aoU (aee tL);have HU:=aoU (aeh tL);clear g2 z2;go_wp2_with fail;refine A5.out.mono ?_;rintro e Jq⟨rfl,rfl⟩;go_wp2_with fail;refine HU.out.mono ?_;rintro e ahm⟨rfl,rfl⟩;clear A5 HU g4;go_wp2_with fail;go_loopw[75] (λi wr=>i= .int .i64 0/\wr=ahm) (λi _=>0)
 case atStart=>exact⟨rfl,rfl⟩
 case round=>
  obtain⟨rfl,rfl⟩:=hrel;have Sk:=aoU (aei wr);go_wp2_with fail;refine Sk.out.mono ?_;rintro e G0⟨ahn,rfl,aho⟩;have K4:=aoU (aek none 0 G0);have Tj:=aoU (FH ahn 0 0 [] none 0 0 [] G0 Rd.empty Rd.empty (by omega) (by omega) (by omega) Z');rw[Z8] at Tj;clear Sk;go_wp2_with fail;refine K4.out.mono ?_;rintro e anF⟨rfl,rfl⟩;clear K4;go_wp2_with fail;refine Tj.out.mono ?_;rintro e Rw⟨Tk,ahp,rfl,⟨anG,X3⟩,AV⟩;have ahq:ahp=0:=(Rd.own X3).og;subst ahq;have Tl:=aho.trans AV
  have hG:=aoU (ZD gs #[.pointer (some ⟨h.g,0,none⟩),.pointer (some ⟨aT,0,none⟩),.pointer (some ⟨gl,0,none⟩),.pointer (some ⟨dX,0,none⟩),.slice none 0 0,.slice none 0 0,.int .i64 0,.int .u32 0,.int .i32 0,.int .u32 0,.bool false] Rw (aH Tl DC.out) (.slice none 0 0) 0 rfl rfl Tk 0 0);clear Tj X3;go_wp2_with fail;refine hG.out.mono ?_;rintro e Gh⟨rfl,Pt,Tm⟩;have anH:gs<gl:=cg (aB (aH apK vr)) eG;have y2:aoV w1 fE:=((Bj.trans yd).trans NR)
  have ec:aoV w1 wr:=gy.up y2 uI.out Ju;have S4:aoV w1 Rw:=ec.trans Tl;have NT:aoV w1 Gh:=gy.up S4 Tm Ju;have anI:aT<gs:=by
   have h1:=aB Tg.out;have h2:=eO.size;omega
  have keep:∀{k:Nat}{o:Obj},k≠gs->fE.heap[k]?=some o->Gh.heap[k]?=some o:=λhne h=>cL Tm (aH Tl (cL uI.out h hne)) hne
  have hm18:Gh.heap[aT]?=some (.cells (yv h.g vf EN cT 1) 255 (0,0)):=keep (by omega) (aH ((r5.trans yd).trans NR) Tg.out);have S5:mh gl h.g dK 0 0 false Gh:=keep (by omega) (ahk.out.up NR);have JS:aoV w4 fE:=aQ.trans ahl.out;have JT:∀{k:Nat}{o:Obj},w4.heap[k]?=some o->k≠gs:=λh=>by have:=aB h;omega
  have H7:qA B dX dy bO cf Gh:=⟨keep (JT xh.out.q) (aH JS xh.out.q),keep (JT xh.out.l) (aH JS xh.out.l),keep (JT xh.out.h) (aH JS xh.out.h),keep (JT xh.out.n) (aH JS xh.out.n),xh.out.b⟩
  have To:Gh.heap[gs]?=some (.cells #[.pointer (some ⟨h.g,0,none⟩),.pointer (some ⟨aT,0,none⟩),.pointer (some ⟨gl,0,none⟩),.pointer (some ⟨dX,0,none⟩),.slice none 0 0,.slice Tk 0 0,.int .i64 0,.int .u32 0,.int .i32 0,.int .u32 0,.bool false] 168 (0,0)):=Pt;have D9:=aoU (ahe (dr.out.up NT) n8.out rfl rfl To rfl rfl hm18 (cd.out.up NT));have ahr:=aoU hm18;have ahs:=aoU S5;have qF:=aoU H7;have aht:=aoU To;have ahu:=aoU NT;clear keep JT hm18 S5 H7 To Pt Tm hG NT S4 ec y2 vr JS;go_wp2_with fail
  refine D9.out.mono ?_;rintro e anJ⟨rfl,JU⟩;clear D9;go_wp2_with fail;refine dm (v:= .tuple #[.pointer (some ⟨gs,0,none⟩),.int .i64 0]) (by simp[results,results62,go_sem]) rfl ?_;have hu:=ahu.out.trans JU;have hb:=qF.out.b;have anK:=zL.size;refine⟨⟨h,gs,aT,gl,dX,dy,bO,cf,Tk,0,vf,EN⟩,rfl,rfl,?_,hu,?_⟩
  .refine⟨dr.out.up hu,aH JU aht.out,?_,ahs.out.up JU,λ_=>qF.out.up JU,jB.empty,⟨?_,?_,?_⟩,aZ _⟩;exact aH JU ahr.out
   .show B<=gs;omega
   .show B<=aT;omega
   .show B<=gl;omega
  .intro k hk;rcases hk with hk|hk|hk|hk|⟨-,hk|hk|hk|hk⟩
   .exact .inl hk
   .right;have hk:k=gs:=hk;omega
   .right;have hk:k=aT:=hk;omega
   .right;have hk:k=gl:=hk;omega
   .right;have hk:k=dX:=hk;omega
   .right;have hk:k=dy:=hk;omega
   .right;have hk:k=bO:=hk;omega
   .right;have hk:k=cf:=hk;omega
def DI(B:Nat)(h:cQ)(d:bA)(K:aD)(w:World)(e:Ending)(w':World):Prop:=∃p:Sp,e= .returned (.tuple #[.pointer (some ⟨p.gs,0,none⟩),.int .i64 0])/\p.h.g=h.g/\vt B p d K w'/\V.af (aJ h) w w'/\(∀k,ek p d k->aJ h k\/w.heap.size<=k)
theorem ahv{B:Nat}{h:cQ}{w:World}{K:aD}(H:bD B h D0 w)(hv:iX w)(hB:sy.g 15<B)(qJ:B<=w.heap.size):Calls prog 62 #[.pointer (some ⟨h.g,0,none⟩)] w (DI B h nd0 K w):=af' H hv hB qJ
theorem ahw{B cs:Nat}{h:cQ}{w:World}{K:aD}(H:bD B h (pQ (Gg cs)) w)(hv:iX w)(qJ:B<=w.heap.size):Calls prog 62 #[.pointer (some ⟨h.g,0,none⟩)] w (DI B h (Gg cs) K w):=by
 refine(ahj (K:=K) H hv qJ).mono ?_;rintro e w'⟨p,rfl,hh,H1,hu,hf⟩;exact⟨p,rfl,by rw[hh],H1,V.af.co hu,hf⟩
theorem ahx(a b c d:Int)(w:World):(Instr.field 97 (.agg #[.int .u64 a,.int .u64 b,.int .u64 c,.int .u64 d]) 2).run prog w= .ok (.int .u64 c) w:=by kernel_rfl
theorem ahy(a b c d:Int)(w:World):(Instr.field 97 (.agg #[.int .u64 a,.int .u64 b,.int .u64 c,.int .u64 d]) 3).run prog w= .ok (.int .u64 d) w:=by kernel_rfl
theorem ahz{B i aG:Nat}{h:cQ}{d:bA}{K:aD}{w:World}(df:Calls prog 62 #[.pointer (some ⟨h.g,0,none⟩)] w (DI B h d K w))(hK:∀k,K k->k<w.heap.size)(hi:i<7)(hg:aG<=1099511627776)(ha:d.ao.a<=1000000000000):
 Calls prog 34 #[.int .i64 i,.pointer (some ⟨h.g,0,none⟩),.int .u64 aG] w λe w'=>∃(p:Sp)(gn:Nat),e= .returned (.tuple #[.pointer (some ⟨gn,0,none⟩),.int .i64 0])/\p.h.g=h.g/\vt B p d K w'/\w'.heap[gn]?=some (.cells #[.int .i64 i,.pointer (some ⟨p.gs,0,none⟩),.int .u64 ((min d.ao.a 1099511627776:Nat):Int),.int .u64 aG] 153 (0,0))/\w.heap.size<=gn/\V.af (aJ h) w w'/\(∀k,ek p d k->aJ h k\/w.heap.size<=k):=by
 have cO:=aoU df;have fV:=aoU hK;obtain⟨aR,su⟩:=bB (min d.ao.a 1099511627776)
 rw[<- su];have hmin:min ((d.ao.a:Nat):Int) 1099511627776=(aR:Int):=by omega
 have iS:¬((i:Int)<0):=by omega
 have z2:¬((7:Int)<=(i:Int)):=by omega
 have RJ:=aoU hmin;clear df hK hmin su;go_enter func34,ntmps34
 go_wp2_with fail;refine cO.out.mono ?_;rintro e w1⟨p,rfl,h1,H1,k1,f1⟩;have qF:=aoU (Fv H1 (λk hk=>cg (fV.out k hk) k1.size));have zI:=aoU H1;have apg:=aoU h1;clear H1 h1 cO;go_wp2_with fail;refine qF.out.mono ?_;rintro e w2⟨rfl,aq⟩;have hmin:=RJ.out;have oa:=ahx;clear qF;go_wp2_with fail;refine dm (v:= .tuple #[.pointer (some ⟨w2.heap.size,0,none⟩),.int .i64 0]) (by simp[results,results34,go_sem]) rfl ?_;have hal:=(aoV.refl w2).alloc (.cells #[.int .i64 i,.pointer (some ⟨p.gs,0,none⟩),.int .u64 aR,.int .u64 aG] 153)
 have vH:=aq.trans hal;exact⟨p,w2.heap.size,rfl,apg.out,zI.out.up (λk hk=>cg (fV.out k hk) k1.size) vH,bp w2 _,bQ k1.size aq.size,ci k1 (V.af.co vH),f1⟩
theorem JV{B:Nat}{p:Sp}{d:bA}{D:aV}{K:aD}{w:World}(H:eS B p d D K w){g:Nat}{cs:Array Value}{t:TypeId}{z:Nat×Nat}(hb:w.heap[g]?=some (.cells cs t z))(ht:t=66\/t=153\/t=155\/t=58):¬ek p d g:=by
 intro hk;rcases hk with hk|rfl|rfl|rfl|⟨h0,rfl|rfl|rfl|rfl⟩
 .rcases ht with rfl|rfl|rfl|rfl <;>exact H.dk.nf hb (by decide) (by decide) (by decide) (by decide) (by decide) hk
 .have:=cS hb H.st;rcases ht with rfl|rfl|rfl|rfl <;>exact absurd this (by decide)
 .have:=cS hb H.mn;rcases ht with rfl|rfl|rfl|rfl <;>exact absurd this (by decide)
 .have h9:=H.am;unfold mh at h9;have:=cS hb h9;rcases ht with rfl|rfl|rfl|rfl <;>exact absurd this (by decide)
 .have:=cS hb (H.ao h0).q;rcases ht with rfl|rfl|rfl|rfl <;>exact absurd this (by decide)
 .have:=cS hb (H.ao h0).l;rcases ht with rfl|rfl|rfl|rfl <;>exact absurd this (by decide)
 .have:=cS hb (H.ao h0).h;rcases ht with rfl|rfl|rfl|rfl <;>exact absurd this (by decide)
 .have:=cS hb (H.ao h0).n;rcases ht with rfl|rfl|rfl|rfl <;>exact absurd this (by decide)
theorem JW(k:Nat):¬bg none k:=λ⟨a,h,_⟩=>by cases h
theorem ahA{B i aG:Nat}{q:dU}{d:bA}{K:aD}{w:World}(h1:w.heap[q.aE]?=some (.cells (ox q) 66 (0,0)))(b1:B<=q.aE)(h2:vt B q.sp d K w)(h3:w.heap[q.gn]?=some (.cells (zA q i aG d) 153 (0,0)))(b3:B<=q.gn)(h4:w.heap[q.gk]?=some (.cells #[.int .i64 i,.int .u64 d.bE.aR,.int .u64 d.bE.ls] 155 (0,0)))(b4:B<=q.gk)(hJ:q.J=none)(mu:q.du= [])(ahB:q.fA=0)(hj:d.jobs= []):
 bF (ez B i aG q d) K (λk=>k=q.aE\/ek q.sp d k\/k=q.gn\/k=q.gk) w:=by
 have n1:=JV h2 h1 (.inl rfl);have n3:=JV h2 h3 (.inr (.inl rfl));have tF:=JV h2 h4 (.inr (.inr (.inl rfl)));have m13:q.aE≠q.gn:=λe=>by rw[e] at h1;exact absurd (cS h1 h3) (by decide)
 have m14:q.aE≠q.gk:=λe=>by rw[e] at h1;exact absurd (cS h1 h4) (by decide)
 have ahC:q.gn≠q.gk:=λe=>by rw[e] at h3;exact absurd (cS h3 h4) (by decide)
 have hrow:Row B 132 1 q.J q.du.length q.fA (q.du.map mE) K (λ_=>False) w:=by
  rw[hJ,mu,ahB];exact⟨fC _ _ _ _,λk=>⟨λh=>h.elim,λh=>absurd h (JW k)⟩⟩
 have ahD:bF (calls B q.du d.jobs) K (λ_=>False) w:=by
  rw[mu,hj];exact λk h=>h
 refine⟨λk=>k=q.aE,λk=>ek q.sp d k\/k=q.gn\/k=q.gk,⟨h1,b1,λk=>Iff.rfl⟩,?_,?_,λk=>Iff.rfl⟩
 .refine⟨ek q.sp d,λk=>k=q.gn\/k=q.gk,⟨h2,λk=>Iff.rfl⟩,?_,?_,λk=>Iff.rfl⟩
  .refine⟨λk=>k=q.gn,λk=>k=q.gk,⟨h3,b3,λk=>Iff.rfl⟩,?_,λk e1 e2=>ahC (e1.symm.trans e2),λk=>Iff.rfl⟩;refine⟨λk=>k=q.gk,λ_=>False,⟨h4,b4,λk=>Iff.rfl⟩,?_,λk _ h=>h,λk=>(or_false _).symm▸Iff.rfl⟩;refine⟨λ_=>False,λ_=>False,hrow,?_,λk _ h=>h,λk=>by simp⟩;exact⟨λ_=>False,λ_=>False,ahD,λk h=>h,λk _ h=>h,λk=>by simp⟩
  .rintro k hk (rfl|rfl);exact n3 hk;exact tF hk
 .rintro k rfl (h|h|h);exact n1 h;exact m13 h;exact m14 h
theorem aO.box{K X K' X':aD}{w w':World}{b:Nat}{o:Obj}(s:aO K X w K' X' w')(h:w.heap[b]?=some o)(hX:¬X b)(hK:¬K b):w'.heap[b]?=some o/\¬X' b/\¬K' b:=by
 have hl:=aB h;exact⟨cL s.kept h hX,λhk=>(s.aJ b hk).elim hX (λh=>by omega),λhk=>(s.shut b hk).elim hK (λh=>by omega)⟩
section
variable{B:Nat}{g:dI}{c:cr}{K X:aD}{w:World}
theorem aU.up{w':World}(H:aU B g c K X w)(hu:aoV w w'):aU B g c K X w':=⟨H.ok,(bH.sf qB).up H.lay H.jA hu,H.jA.up hu⟩
theorem aU.keep{w':World}{Y:aD}(H:aU B g c K X w)(hK:V.af Y w w')(hx:∀k,X k->¬Y k)(hk:∀k,K k->¬Y k):aU B g c K X w':=
 ⟨H.ok,(bH.sf qB).keep H.lay hK hx hk,⟨H.jA.ap,λk h=>cg (H.jA.lt k h) hK.size⟩⟩
theorem aU.lt(H:aU B g c K X w){k:Nat}(hk:X k):B<=k/\k<w.heap.size:=(bH.sf qB).lt H.lay hk
structure y4(g:dI)(c:cr)(w:World):Prop where
 bL:w.heap[g.gc]?=some (.cells (jC g c) 58 (0,0))
 ps:Rd w w.heap.size 1 g.P g.aN.length (g.aN.map pR)
theorem aU.flat(H:aU B g c K X w):y4 g c w:=by
 obtain⟨aA,uB,h1,⟨cD,uC,h2,-⟩,-⟩:=H.lay;exact⟨h1.1,Rd.own h2.1⟩
theorem aU.xu(H:aU B g c K X w):X g.gc:=by
 obtain⟨aA,uB,h1,-,-,hx⟩:=H.lay;exact(hx _).2 (.inl ((h1.2.2 _).2 rfl))
theorem TE{α β:Type}(f:α->β)(l:List α)(i:Nat)(a b:α)(h:l[i]?=some a)(e:f b=f a):(l.set i b).map f=l.map f:=by
 rw[List.map_set];apply List.ext_getElem?;intro k;by_cases hk:k=i
 .subst hk;rw[List.getElem?_set_self',List.getElem?_map,h];simp[e]
 .rw[List.getElem?_set_ne (λh=>hk h.symm)]
theorem aU.place{i:Nat}{q:dU}{d:bA}(H:aU B g c K X w)(hq:g.aN[i]?=some q)(hd:c.aw[i]?=some d):
 ∃aA:aD,lm B i c.aG q d K aA w/\cy K aA w/\(∀k,aA k->X k)/\∀(q':dU)(d':bA)(K' cA:aD)(w':World),q'.aE=q.aE->q'.du.length=d'.jobs.length->lm B i c.aG q' d' K' cA w'->aO K aA w K' cA w'->cy K' cA w'->
  ∃X',aU B { g with aN:=g.aN.set i q' } { c with aw:=c.aw.set i d' } K' X' w'/\aO K X w K' X' w':=by
 obtain⟨ep,DM,h5,a5,uL⟩:=bF.part qB H.lay H.jA (i:=5) rfl;have xv:=IY (B:=B) (aG:=c.aG) 0 i g.aN c.aw q d hq hd;rw[dV] at xv;obtain⟨aA,vC,h1,a1,oC⟩:=bF.part (Dp _ _ _) h5 a5 xv;refine⟨aA,h1,a1,λk hk=>(uL.iff k).2 (.inl ((oC.iff k).2 (.inl hk))),λq' d' K' cA w' qM hjl uu s1 J4=>?_⟩;obtain⟨h6,iY,a6⟩:=oC.put uu s1 J4;have bC:=IZ (B:=B) (aG:=c.aG) 0 i g.aN c.aw q' d';rw[dV] at bC;rw[bC] at h6;obtain⟨h7,gK,a7⟩:=uL.put h6 iY a6
 have e:(apa B g c).set 5 (bF (mq B c.aG 0 (g.aN.set i q') (c.aw.set i d')))=apa B { g with aN:=g.aN.set i q' } { c with aw:=c.aw.set i d' } :=by
  unfold apa jC;dsimp only;rw[TE pR g.aN i q q' hq (by unfold pR;rw[qM]),List.length_set];rfl
 rw[e] at h7;refine⟨_,⟨⟨H.ok.net,H.ok.cZ,H.ok.jf,?_,λk cP d2 eM dw=>?_⟩,h7,a7⟩,gK⟩
 .show(g.aN.set i q').length=(c.aw.set i d').length;rw[List.length_set,List.length_set];exact H.ok.aw
 .have eM:(g.aN.set i q')[k]?=some cP:=eM;have dw:(c.aw.set i d')[k]?=some d2:=dw;by_cases hk:k=i
  .subst hk;rw[nC (gM hq)] at eM;rw[nC (gM hd)] at dw;injection eM with eM;injection dw with dw;subst eM;subst dw;exact hjl
  .rw[List.getElem?_set_ne (λh=>hk h.symm)] at eM dw;exact H.ok.jobs k cP d2 eM dw
theorem aU.BP{i:Nat}{q:dU}{d:bA}(H:aU B g c K X w)(hq:g.aN[i]?=some q)(hd:c.aw[i]?=some d)(hu:d.up=true):
 ∃aA:aD,bF (ez B i c.aG q d) K aA w/\cy K aA w/\(∀k,aA k->X k)/\∀(q':dU)(d':bA)(K' cA:aD)(w':World),q'.aE=q.aE->q'.du.length=d'.jobs.length->d'.up=true->bF (ez B i c.aG q' d') K' cA w'->aO K aA w K' cA w'->cy K' cA w'->
  ∃X',aU B { g with aN:=g.aN.set i q' } { c with aw:=c.aw.set i d' } K' X' w'/\aO K X w K' X' w':=by
 obtain⟨aA,h1,a1,x1,put⟩:=H.place hq hd;unfold lm at h1;rw[if_pos hu] at h1;refine⟨aA,h1,a1,x1,λq' d' K' cA w' e1 e2 bG h s a=>put q' d' K' cA w' e1 e2 ?_ s a⟩;unfold lm;rw[if_pos bG];exact h
theorem aU.TF(H:aU B g c K X w):∃aA:aD,qz B g.gt g.ms K aA w/\cy K aA w/\(∀k,aA k->X k)/\(¬aA g.gc)/\∀(ms':List em)(K' cA:aD)(w':World),qz B g.gt ms' K' cA w'->aO K aA w K' cA w'->cy K' cA w'->
 ∃X',aU B { g with ms:=ms' } { c with net:=ms'.map (·.m) } K' X' w'/\aO K X w K' X' w':=by
 have yY:∃aW Gl,(nj B g.gc 58 (jC g c)) K aW w/\RG (apa B g c) 0 K X aW Gl w:=by
  obtain⟨aW,Gl,h0,a0,BQ⟩:=bF.part qB H.lay H.jA (i:=0) rfl;exact⟨aW,Gl,h0,BQ⟩
 obtain⟨cD,Ba,h2,a2,tP⟩:=bF.part qB H.lay H.jA (i:=2) rfl;refine⟨cD,h2,a2,λk hk=>(tP.iff k).2 (.inl hk),λhX=>?_,λms' K' cA w' h s a=>?_⟩
 .obtain⟨L,rc,lost,sent,n1,n2,n3,tF,n5⟩:=h2;have cn:=H.flat.bL;rcases (tF _).1 hX with e|e
  .rw[e] at cn;exact absurd (cS cn n1) (by decide)
  .obtain⟨cs,z,hh⟩:=iL n3 e;exact absurd (cS cn hh) (by decide)
 .obtain⟨h7,gK,a7⟩:=tP.put h s a;have e:(apa B g c).set 2 (qz B g.gt ms')=apa B { g with ms:=ms' } { c with net:=ms'.map (·.m) } :=rfl;rw[e] at h7;exact⟨_,⟨⟨rfl,H.ok.cZ,H.ok.jf,H.ok.aw,H.ok.jobs⟩,h7,a7⟩,gK⟩
end
structure ahS(l:List fy)(i:Nat)(K X aA Z:aD)(w:World):Prop where
 iff:∀k,X k↔(aA k\/Z k)
 ap:∀k,aA k->¬Z k
 lt:∀k,Z k->k<w.heap.size
 put:∀{P':fy}{cA Y:aD}{w':World},P' K cA w'->V.af Y w w'->(∀k,Z k->¬Y k)->(∀k,K k->¬Y k)->(∀k,cA k->¬Z k)->bF (l.set i P') K (λk=>cA k\/Z k) w'
theorem bF.yA{B:Nat}{P:fy}{K:aD}{w:World} :∀{l:List fy}{i:Nat}{X:aD},(∀P∈l,bH B P)->bF l K X w->l[i]?=some P->∃aA Z:aD,P K aA w/\ahS l i K X aA Z w
 | [],i,X,_,_,hi=>by simp at hi
 |Q::r,0,X,hl,h,hi=>by
  have hPQ:P=Q:=by simpa using hi.symm
  subst hPQ;obtain⟨aA,Z,h1,h2,hd,hx⟩:=h;have hlr:=bH.sf λQ hQ=>hl Q (kS _ hQ)
  exact⟨aA,Z,h1,hx,hd,λk hk=>(hlr.lt h2 hk).2,λ{P' cA Y w'} hp hK hz hk hn=>⟨cA,Z,hp,hlr.keep h2 hK hz hk,hn,λk=>Iff.rfl⟩⟩
 |Q::r,i+1,X,hl,h,hi=>by
  have hi':r[i]?=some P:=by simpa using hi
  have hlr:∀P∈r,bH B P:=λQ hQ=>hl Q (kS _ hQ)
  have hQ:=hl Q gN;obtain⟨um,R,h1,h2,hd,hx⟩:=h;obtain⟨aA,Z,h3,p⟩:=bF.yA hlr h2 hi';refine⟨aA,λk=>um k\/Z k,h3,λk=>?_,λk hk hz=>?_,λk hk=>?_,λ{P' cA Y w'} hp hK hz hk hn=>?_⟩
  .rw[hx k,p.iff k];exact⟨λh=>h.elim (λh=> .inr (.inl h)) (λh=>h.elim .inl (λh=> .inr (.inr h))),λh=>h.elim (λh=> .inr (.inl h)) (λh=>h.elim .inl (λh=> .inr (.inr h)))⟩
  .rcases hz with hz|hz
   .exact hd k hz ((p.iff k).2 (.inl hk))
   .exact p.ap k hk hz
  .rcases hk with hk|hk
   .exact(hQ.lt h1 hk).2
   .exact p.lt k hk
  .refine⟨um,λk=>cA k\/Z k,hQ.keep h1 hK (λk h=>hz k (.inl h)) hk,p.put hp hK (λk h=>hz k (.inr h)) hk (λk h1 h2=>hn k h1 (.inr h2)),λk iU hk2=>?_,λk=>?_⟩
   .rcases hk2 with h|h
    .exact hn k h (.inl iU)
    .exact hd k iU ((p.iff k).2 (.inr h))
   .exact⟨λh=>h.elim (λh=> .inr (.inl h)) (λh=>h.elim .inl (λh=> .inr (.inr h))),λh=>h.elim (λh=> .inr (.inl h)) (λh=>h.elim .inl (λh=> .inr (.inr h)))⟩
theorem bF.two{B j:Nat}{P Q:fy}{r:List fy}{K X:aD}{w:World}(hl:∀P'∈P::r,bH B P')(H:bF (P::r) K X w)(hA:cy K X w)(hj:r[j]?=some Q):
 ∃aA cD:aD,P K aA w/\Q K cD w/\(∀k,aA k->X k)/\(∀k,cD k->X k)/\(∀k,aA k->¬cD k)/\∀(P' Q':fy)(cA BR:aD)(w':World),P' K cA w'->Q' K BR w'->(∀k,cA k->¬BR k)->V.af (λk=>aA k\/cD k) w w'->(∀k,cA k->(aA k\/cD k)\/w.heap.size<=k)->(∀k,BR k->(aA k\/cD k)\/w.heap.size<=k)->
  ∃X',bF (P'::r.set j Q') K X' w'/\aO K X w K X' w'/\cy K X' w':=by
 obtain⟨aA,R,h1,h2,hd,hx⟩:=H;have hlr:∀P∈r,bH B P:=λQ hQ=>hl Q (kS _ hQ)
 obtain⟨cD,Z,h3,p⟩:=bF.yA hlr h2 hj;have x1:∀k,aA k->X k:=λk hk=>(hx k).2 (.inl hk)
 have x2:∀k,cD k->X k:=λk hk=>(hx k).2 (.inr ((p.iff k).2 (.inl hk)))
 have xz:∀k,Z k->X k:=λk hk=>(hx k).2 (.inr ((p.iff k).2 (.inr hk)))
 have d12:∀k,aA k->¬cD k:=λk a b=>hd k a ((p.iff k).2 (.inl b))
 have Cl:∀k,Z k->¬(aA k\/cD k):=λk a b=>b.elim (λb=>hd k b ((p.iff k).2 (.inr a))) (λb=>p.ap k b a)
 refine⟨aA,cD,h1,h3,x1,x2,d12,λP' Q' cA BR w' hp hq BA hK f1 f2=>?_⟩;have nz:∀k,((aA k\/cD k)\/w.heap.size<=k)->¬Z k:=λk h hz=>h.elim (Cl k hz) (λh=>by have:=p.lt k hz;omega)
 have hk:∀k,K k->¬(aA k\/cD k):=λk hk h=>h.elim (λh=>hA.ap k (x1 k h) hk) (λh=>hA.ap k (x2 k h) hk)
 have eM:=p.put hq hK Cl hk (λk h=>nz k (f2 k h));have s:aO K X w K (λk=>cA k\/(BR k\/Z k)) w':=by
  refine⟨eQ hK (λk h=>h.elim (x1 k) (x2 k)),λk h=>?_,λ_ h=>h,λ_ h=> .inl h⟩;rcases h with h|h|h
  .exact(f1 k h).imp (λh=>h.elim (x1 k) (x2 k)) id
  .exact(f2 k h).imp (λh=>h.elim (x1 k) (x2 k)) id
  .exact .inl (xz k h)
 exact⟨_,⟨cA,λk=>BR k\/Z k,hp,eM,λk a b=>b.elim (BA k a) (nz k (f1 k a)),λk=>Iff.rfl⟩,s,hA.same s⟩
theorem TG:jr prog 44 32 8 80:=jr.mk' underlying44 (z:= .agg #[.int .u64 0,.int .i64 0,.int .i64 0,.int .u64 0,.int .i64 0,.int .i64 0,.int .u64 0,.slice none 0 0]) (by kernel_rfl) rfl (by decide)
theorem TH(v:jZ):∀u∈apc v,u.oneCell'=true:=by
 intro u hu;simp only[apc,List.mem_cons,List.not_mem_nil,or_false] at hu;rcases hu with rfl|rfl|rfl|rfl|rfl|rfl|rfl|rfl <;>rfl
theorem TI(l:List jZ)(v:jZ):nY (l++[v])=nY l++apc v:=by simp[nY]
section
variable{B:Nat}{g:dI}{c:cr}{K X:aD}{w w':World}
theorem aU.shut{R:Option Addr}(H:aU B g c K X w)(hu:aoV w w')(h1:∀k,bg R k->w.heap.size<=k/\k<w'.heap.size):aU B g c (λk=>K k\/bg R k) X w'/\aO K X w (λk=>K k\/bg R k) X w':=
 ⟨⟨H.ok,(bH.sf qB).more (H.up hu).lay (λk hk=> .inl hk),⟨λk hk h=>h.elim (H.jA.ap k hk) (λh=>by have h2:=(H.lt hk).2;have h3:=(h1 k h).1;omega),λk h=>h.elim (λh=>cg (H.jA.lt k h) hu.size) (λh=>(h1 k h).2)⟩⟩,
  ⟨V.af.co hu,λk hk=> .inl hk,λk hk=> .inl hk,λk hk=>hk.imp id (λh=>(h1 k h).1)⟩⟩
theorem ahT(L':Option Addr)(rc':Nat)(v:jZ):(jC g c).setIfInBounds 4 (.slice L' (g.ie.length+1) rc')=jC { g with A:=L',ac:=rc',ie:=g.ie++[v] } { c with cZ:=c.cZ++[v.a] } :=by
 unfold jC;rw[dG];rfl
theorem ahU(L':Option Addr)(rc':Nat)(v:jZ):(jC g c).setIfInBounds 5 (.slice L' (g.nZ.length+1) rc')=jC { g with I:=L',zB:=rc',nZ:=g.nZ++[v] } { c with jf:=c.jf++[v.a] } :=by
 unfold jC;rw[dG];rfl
theorem aU.ahV(H:aU B g c K X w):w.ownsRow B 32 8 (.slice g.A g.ie.length g.ac) g.ie.length (nY g.ie)/\(∀k,bg g.A k->X k):=by
 obtain⟨lI,MG,h3,p⟩:=bF.yA qB H.lay (i:=3) rfl;exact⟨h3.1,λk hk=>(p.iff k).2 (.inl ((h3.2.1 k).2 hk))⟩
theorem aU.ahW(H:aU B g c K X w):w.ownsRow B 32 8 (.slice g.I g.nZ.length g.zB) g.nZ.length (nY g.nZ)/\(∀k,bg g.I k->X k):=by
 obtain⟨lI,MG,h3,p⟩:=bF.yA qB H.lay (i:=4) rfl;exact⟨h3.1,λk hk=>(p.iff k).2 (.inl ((h3.2.1 k).2 hk))⟩
theorem aU.answer{L':Option Addr}{rc':Nat}{v:jZ}(H:aU B g c K X w)(hv:jB K w 5 v.A v.a.l.length (bl v.a.l))(hb:w'.heap[g.gc]?=some (.cells ((jC g c).setIfInBounds 4 (.slice L' (g.ie.length+1) rc')) 58 (0,0)))(hr:w'.ownsRow B 32 8 (.slice L' (g.ie.length+1) rc') (g.ie.length+1) (nY g.ie++apc v))(hL:∀k,bg L' k->bg g.A k\/w.heap.size<=k)(hK:V.af (λk=>k=g.gc\/bg g.A k) w w'):
 ∃X',aU B { g with A:=L',ac:=rc',ie:=g.ie++[v] } { c with cZ:=c.cZ++[v.a] } K X' w'/\aO K X w K X' w':=by
 obtain⟨aA,cD,h1,h2,x1,x2,d12,put⟩:=bF.two (j:=2) qB H.lay H.jA rfl;have g1:∀k,aA k↔k=g.gc:=h1.2.2;have g2:∀k,cD k↔bg g.A k:=h2.2.1;have kk:∀k,K k->¬(k=g.gc\/bg g.A k):=λk hk h=>h.elim (λh=>H.jA.ap k (x1 k ((g1 k).2 h)) hk) (λh=>H.jA.ap k (x2 k ((g2 k).2 h)) hk)
 rw[ahT L' rc' v] at hb;obtain⟨X',h7,gK,a7⟩:=put (nj B g.gc 58 (jC { g with A:=L',ac:=rc',ie:=g.ie++[v] } { c with cZ:=c.cZ++[v.a] })) (Fu B L' rc' (g.ie++[v])) (λk=>k=g.gc) (λk=>bg L' k) w' ⟨hb,h1.2.1,λk=>Iff.rfl⟩
  ⟨by rw[TI,dG];exact hr,λk=>Iff.rfl,λu hu=>(List.mem_append.1 hu).elim (λhu=>(h2.2.2 u hu).keep hK kk) (λhu=>by rw[fi] at hu;rw[hu];exact hv.keep hK kk)⟩
  (λk e hk=>by
   have e:k=g.gc:=e;obtain⟨cs,z,q1⟩:=iL hr hk;rw[e] at q1;exact absurd (cS q1 hb) (by decide))
  (eQ hK (λk h=>h.imp (g1 k).2 (g2 k).2)) (λk h=> .inl (.inl ((g1 k).2 h))) (λk h=>(hL k h).imp (λh=> .inr ((g2 k).2 h)) id)
 exact⟨X',⟨⟨H.ok.net,by
  show(g.ie++[v]).map (·.a)=c.cZ++[v.a];rw[kU,H.ok.cZ];rfl,H.ok.jf,H.ok.aw,H.ok.jobs⟩,h7,a7⟩,gK⟩
theorem aU.ahX{L':Option Addr}{rc':Nat}{v:jZ}(H:aU B g c K X w)(hv:jB K w 5 v.A v.a.l.length (bl v.a.l))(hb:w'.heap[g.gc]?=some (.cells ((jC g c).setIfInBounds 5 (.slice L' (g.nZ.length+1) rc')) 58 (0,0)))(hr:w'.ownsRow B 32 8 (.slice L' (g.nZ.length+1) rc') (g.nZ.length+1) (nY g.nZ++apc v))(hL:∀k,bg L' k->bg g.I k\/w.heap.size<=k)(hK:V.af (λk=>k=g.gc\/bg g.I k) w w'):
 ∃X',aU B { g with I:=L',zB:=rc',nZ:=g.nZ++[v] } { c with jf:=c.jf++[v.a] } K X' w'/\aO K X w K X' w':=by
 obtain⟨aA,cD,h1,h2,x1,x2,d12,put⟩:=bF.two (j:=3) qB H.lay H.jA rfl;have g1:∀k,aA k↔k=g.gc:=h1.2.2;have g2:∀k,cD k↔bg g.I k:=h2.2.1;have kk:∀k,K k->¬(k=g.gc\/bg g.I k):=λk hk h=>h.elim (λh=>H.jA.ap k (x1 k ((g1 k).2 h)) hk) (λh=>H.jA.ap k (x2 k ((g2 k).2 h)) hk)
 rw[ahU L' rc' v] at hb;obtain⟨X',h7,gK,a7⟩:=put (nj B g.gc 58 (jC { g with I:=L',zB:=rc',nZ:=g.nZ++[v] } { c with jf:=c.jf++[v.a] })) (Fu B L' rc' (g.nZ++[v])) (λk=>k=g.gc) (λk=>bg L' k) w' ⟨hb,h1.2.1,λk=>Iff.rfl⟩
  ⟨by rw[TI,dG];exact hr,λk=>Iff.rfl,λu hu=>(List.mem_append.1 hu).elim (λhu=>(h2.2.2 u hu).keep hK kk) (λhu=>by rw[fi] at hu;rw[hu];exact hv.keep hK kk)⟩
  (λk e hk=>by
   have e:k=g.gc:=e;obtain⟨cs,z,q1⟩:=iL hr hk;rw[e] at q1;exact absurd (cS q1 hb) (by decide))
  (eQ hK (λk h=>h.imp (g1 k).2 (g2 k).2)) (λk h=> .inl (.inl ((g1 k).2 h))) (λk h=>(hL k h).imp (λh=> .inr ((g2 k).2 h)) id)
 exact⟨X',⟨⟨H.ok.net,H.ok.cZ,by
  show(g.nZ++[v]).map (·.a)=c.jf++[v.a];rw[kU,H.ok.jf];rfl,H.ok.aw,H.ok.jobs⟩,h7,a7⟩,gK⟩
end
theorem N2(v:jZ):(apc v).length=8:=rfl
theorem VT(l:List jZ):(nY l).length=l.length*8:=Mc apc N2 l
theorem J5{l:List jZ}{k:Nat}{v:jZ}(hv:l[k]?=some v)(j:Nat)(hj:j<8):(nY l)[k*8+j]?=(apc v)[j]?:=by
 induction l generalizing k with
 |nil=>cases hv
 |cons x r ih=>
  cases k with
  |zero=>
   injection hv with hv;subst hv;show(apc x++nY r)[0*8+j]?=_;rw[Nat.zero_mul,dV,List.getElem?_append_left (by rw[N2];exact hj)]
  |succ k=>
   show(apc x++nY r)[(k+1)*8+j]?=_;rw[List.getElem?_append_right (by rw[N2];omega),N2,show(k+1)*8+j-8=k*8+j by omega];exact ih hv
theorem Rd.ahY{w:World}{B n:Nat}{A:Option Addr}{l:List jZ}(h:Rd w B 8 A n (nY l)){k:Nat}(hk:k<n):
 ∃b o v,A=some ⟨b,o,none⟩/\b<B/\l[k]?=some v/\∀j u,j<8->(apc v)[j]?=some u->w.cell? ⟨b,o+k*8+j,none⟩=some u:=by
 obtain⟨b,o,rfl,hb,hc⟩:=h.2 (by omega);have bS:k<l.length:=by have:=h.1;rw[VT] at this;omega
 refine⟨b,o,l[k],rfl,hb,dh bS,λj u hj hu=>?_⟩;rw[Nat.add_assoc];exact hc _ u ((J5 (dh bS) j hj).trans hu)
theorem ahZ(A:Option Addr)(n c:Nat)(l:List jZ)(w:World)(hr:Rd w w.heap.size 8 A n (nY l))(hn:n<=100000)(hi:∀v∈l,Rd w w.heap.size 5 v.A v.a.l.length (bl v.a.l)/\v.a.l.length<=1000000):
 Calls prog 32 #[.slice A n c] w λe w'=>∃(R:Option Addr)(rc:Nat)(vs:List jZ),e= .returned (.slice R n rc)/\w'.ownsRow w.heap.size 32 8 (.slice R n rc) n (nY vs)/\vs.map (·.a)=l.map (·.a)/\(∀v∈vs,∃rc,ej w' w.heap.size v.A v.a.l.length rc v.a.l)/\aoV w w':=by
 have hnl:n=l.length:=by have:=hr.1;rw[VT] at this;omega
 have lz:=aoU hnl;have fS:=aoU hi;clear hnl hi;go_enter func32,ntmps32
 go_wp2_with fail;go_loopw[3,8] (λout i wr=>∃(k:Nat)(Q:Option Addr)(ip:Nat)(vs:List jZ),i= .int .i64 k/\out= .slice Q k ip/\k<=n/\wr.ownsRow w.heap.size 32 8 (.slice Q k ip) k (nY vs)/\vs.map (·.a)=(l.take k).map (·.a)/\(∀v∈vs,∃rc,ej wr w.heap.size v.A v.a.l.length rc v.a.l)/\aoV w wr) (λ_ i _=>n-(intOf i).toNat)
 case atStart=>exact⟨0,none,0,[],rfl,rfl,Nat.zero_le _,fC _ _ _ _,rfl,(λv hv=>by cases hv),aoV.refl _⟩
 case round=>
  obtain⟨k,Q,ip,vs,rfl,rfl,hk,hown,hvs,hit,hu⟩:=hrel;by_cases hlt:k<n
  .obtain⟨b,o,v,rfl,hb,hv,hc⟩:=(hr.stay (aZ _) hu).ahY hlt;have bS:k<l.length:=by have:=lz.out;omega
   have uw:v∈l:=lW hv;obtain⟨Bg,hvl⟩:=fS.out v uw;have jF:∀R rc,(vs++[(⟨v.a,R,rc⟩:jZ)]).map (·.a)=(l.take (k+1)).map (·.a):=λR rc=>by
    have h9:l[k]=v:=by rw[dh bS] at hv;injection hv
    rw[lU bS,kU,kU,hvs,h9];rfl
   obtain⟨an,bj,dS⟩:=v;dsimp only at Bg hvl jF;obtain⟨m0,hm0⟩:=bB an.l.length
   have jz:∀j u,j<8->([.int .u64 an.id,.int .i64 an.c.kind,.int .i64 an.c.s,.int .u64 an.c.t,.int .i64 an.c.x,.int .i64 an.e,.int .u64 an.v,.slice bj m0 dS]:List Value)[j]?=some u->wr.cell? ⟨b,o+k*8+j,none⟩=some u:=λj u hj hu=>hc j u hj (by rw[<- hu,hm0];rfl)
   have d0:wr.cell? ⟨b,o+k*8,none⟩=_:=jz 0 _ (by omega) rfl;have d1:=jz 1 _ (by omega) rfl;have d2:=jz 2 _ (by omega) rfl;have d3:=jz 3 _ (by omega) rfl;have d4:=jz 4 _ (by omega) rfl;have d5:=jz 5 _ (by omega) rfl;have d6:=jz 6 _ (by omega) rfl;have d7:=jz 7 _ (by omega) rfl;rw[<- hm0] at Bg hvl;have hal:=(aoV.refl wr).alloc (.cells #[.int .u64 an.id,.int .i64 an.c.kind,.int .i64 an.c.s,.int .u64 an.c.t,.int .i64 an.c.x,.int .i64 an.e,.int .u64 an.v,.slice bj m0 dS] 32)
   have aL:=bp wr (.cells #[.int .u64 an.id,.int .i64 an.c.kind,.int .i64 an.c.s,.int .u64 an.c.t,.int .i64 an.c.x,.int .i64 an.e,.int .u64 an.v,.slice bj m0 dS] 32);have pn:=Bg.up (hu.trans hal);have sU:=el hown hal;have TJ:¬bW Q wr.heap.size:=λ⟨ad,e1,e2⟩=>by
    subst e1;have:=(jO hown ad.block rfl).2;omega
   have zb:=aoU hit;have kW:=aoU jF;have NO:=aoU hm0;have kG:=aoU hu;have qX:=hu.size;clear hc jz hv uw Bg jF hm0 hit hvs bS hown hu;have J6:=hal;obtain⟨nB,TK⟩:=bB wr.heap.size
   have H8:nB<(wr.alloc (.cells #[.int .u64 an.id,.int .i64 an.c.kind,.int .i64 an.c.s,.int .u64 an.c.t,.int .i64 an.c.x,.int .i64 an.e,.int .u64 an.v,.slice bj m0 dS] 32)).heap.size:=by rw[fF];omega
   rw[<- TK] at aL TJ qX;have N4:=aoU TK;clear TK;go_upto_region 6 with (
    at_builtin;refine iF _ AO (fC _ w.heap.size _ _) pn (CI _) (by omega) (by omega) (bQ (by have:=N4.out;omega) J6.size) rfl rfl rfl rfl ?_;intro v5 ai dN eh om;obtain⟨bZ,dC,rfl⟩:=eL dN
    have lN:ai.heap[nB]?=some (.cells #[.int .u64 an.id,.int .i64 an.c.kind,.int .i64 an.c.s,.int .u64 an.c.t,.int .i64 an.c.x,.int .i64 an.e,.int .u64 an.v,.slice bj m0 dS] 32 (0,0)):=(eh.block nB H8 (λe=>by cases e)).trans aL;have cI:aoV (wr.alloc (.cells #[.int .u64 an.id,.int .i64 an.c.kind,.int .i64 an.c.s,.int .u64 an.c.t,.int .i64 an.c.x,.int .i64 an.e,.int .u64 an.v,.slice bj m0 dS] 32)) ai:=(aoV.refl _).grown eh (λg hg=>by cases hg);rw[dV,gY] at dN;have dt:=aoW lN 7;have f5:=ay lN 7;rw[N4.out] at dt f5;clear eh om)
   rw[<- N4.out];have wZ:=bM ai nB 7 (.slice bZ m0 dC) _ _ lN;have gU:V.af (λx=>x=nB) ai (ai.setCell ⟨nB,7,none⟩ (.slice bZ m0 dC)):=aoZ _ _ nB 7 _ (V.af.refl _ _);have KB:=el sU cI;have NP:=J6.trans cI;generalize ai.setCell ⟨nB,7,none⟩ (.slice bZ m0 dC)=cH at *;have Bb:cH.heap[nB]?=some (.cells #[.int .u64 an.id,.int .i64 an.c.kind,.int .i64 an.c.s,.int .u64 an.c.t,.int .i64 an.c.x,.int .i64 an.e,.int .u64 an.v,.slice bZ m0 dC] 32 (0,0)):=wZ;have eZ:aoV wr cH:=gy.up NP gU (by rw[N4.out];exact aZ _)
   have N5:=iC KB gU (λkk hk e=>TJ (by have e:kk=nB:=e;rw[<- e];exact hk));have o3:=iC dN gU (λkk hk e=>by
    have e:kk=nB:=e;obtain⟨cs,z,q1⟩:=iL dN hk;rw[e] at q1;exact absurd (cS q1 lN) (by decide))
   have Mt:∀v∈vs++[(⟨an,bZ,dC⟩:jZ)],∃rc,ej cH w.heap.size v.A v.a.l.length rc v.a.l:=λv hv=>by
    rcases List.mem_append.1 hv with hv|hv
    .obtain⟨rc,ho⟩:=zb.out v hv;exact⟨rc,el ho eZ⟩
    .rw[fi] at hv;subst hv;exact⟨dC,by dsimp only;rw[<- NO.out];exact o3⟩
   have ah0:=aoU Mt;have vS:=kG.out.trans eZ;obtain⟨e0,e1,e2,bG,bT,anM,jV,kg⟩:=yP Bb;have jW:=wt cH #[.int .u64 an.id,.int .i64 an.c.kind,.int .i64 an.c.s,.int .u64 an.c.t,.int .i64 an.c.x,.int .i64 an.e,.int .u64 an.v,.slice bZ m0 dC] 32 (base:=cH.heap.size) (sz:=8) (n:=1) (aZ _) rfl (by omega);have sw:=aoU jW
   have BS:apc ⟨an,bZ,dC⟩=(#[.int .u64 an.id,.int .i64 an.c.kind,.int .i64 an.c.s,.int .u64 an.c.t,.int .i64 an.c.x,.int .i64 an.e,.int .u64 an.v,.slice bZ m0 dC]:Array Value).toList:=by rw[NO.out];rfl
   have hone:∀u∈(#[.int .u64 an.id,.int .i64 an.c.kind,.int .i64 an.c.s,.int .u64 an.c.t,.int .i64 an.c.x,.int .i64 an.e,.int .u64 an.v,.slice bZ m0 dC]:Array Value).toList,u.oneCell'=true:=by rw[<- BS];exact TH _
   have ah1:=aoU BS;have ah2:=aoU hone;clear BS hone;clear wZ gU KB NP Mt zb o3 dN lN cI sU jW dt f5 hal J6 aL TJ qX H8 pn hvl eZ;go_wp2_with (at_builtin;go_loud (refine iF _ TG (lu N5 _) (Rd.own sw.out) ah2.out (by omega) (by omega) (by have:=vS.size;simp;omega) rfl rfl rfl rfl ?_);intro zV w7 vn BG anN;obtain⟨Dr,d7,rfl⟩:=eL vn)
   have uo:aoV w w7:=(vS.alloc _).grown BG (λg hg=>(jO N5 g hg).1);have hkr:=qZ (lu N5 _) BG;have Ix:w7.ownsRow w.heap.size 32 8 (.slice Dr (k+1) d7) (k+1) (nY (vs++[(⟨an,bZ,dC⟩:jZ)])):=by
    rw[TI,ah1.out];exact vn
   have ah3:∀v∈vs++[(⟨an,bZ,dC⟩:jZ)],∃rc,ej w7 w.heap.size v.A v.a.l.length rc v.a.l:=λv hv=>by
    obtain⟨rc,ho⟩:=ah0.out v hv;refine⟨rc,iC (el ho ((aoV.refl _).alloc _)) hkr (λkk hk h=>?_)⟩;obtain⟨cs,z,q1⟩:=iL ho hk;obtain⟨cs',z',cP⟩:=iL N5 h;exact absurd (cS q1 cP) (by decide)
   go_roundw
   case rel=>exact⟨k+1,Dr,d7,vs++[⟨an,bZ,dC⟩],by go_num,rfl,by omega,Ix,kW.out bZ dC,ah3,uo⟩
   case measure=>simp[intOf];omega
  .have i1:¬(k:Int)<(n:Int):=by omega
   obtain rfl:k=n:=by omega
   have hall:l.take k=l:=lV (by have:=lz.out;omega);rw[hall] at hvs;have apG:=aoU hvs;clear hvs hall;go_wp2_with fail;go_ret;exact⟨Q,ip,rfl,vs,hown,apG.out,hit,hu⟩
theorem er{B:Nat}{g:dI}{c:cr}{K X:aD}{w:World}(H:aU B g c K X w)(hn:c.cZ.length<=100000)(hl:∀a∈c.cZ,a.l.length<=1000000):
 Calls prog 13 #[.pointer (some ⟨g.gc,0,none⟩)] w λe w'=>∃(R:Option Addr)(rc:Nat)(vs:List jZ),e= .returned (.slice R c.cZ.length rc)/\w'.ownsRow w.heap.size 32 8 (.slice R c.cZ.length rc) c.cZ.length (nY vs)/\vs.map (·.a)=c.cZ/\(∀v∈vs,∃rc,ej w' w.heap.size v.A v.a.l.length rc v.a.l)/\aoV w w':=by
 have hlen:g.ie.length=c.cZ.length:=by rw[<- H.ok.cZ,iZ]
 obtain⟨lI,MG,h3,p⟩:=bF.yA qB H.lay (i:=3) rfl;have hr:=Rd.own h3.1;rw[hlen] at hr;have bh:=aoU (ahZ g.A c.cZ.length g.ac g.ie w hr hn (λv hv=>⟨(h3.2.2 v hv).rd,hl v.a (by rw[<- H.ok.cZ];exact List.mem_map_of_mem hv)⟩));rw[H.ok.cZ] at bh;have c4:w.cell? ⟨g.gc,4,none⟩=some (.slice g.A c.cZ.length g.ac):=(aoW H.flat.bL 4).trans (by rw[<- hlen];rfl);generalize c.cZ=al at *;clear H h3 p hr hlen hl;go_enter func13,ntmps13
 go_wp2_with fail;refine bh.out.mono ?_;rintro e w1⟨R,rc,vs,rfl,h1,h2,h3,h4⟩;have H1:=aoU h1;have H2:=aoU h2;have H3:=aoU h3;clear h1 h2 h3 bh;go_wp2_with fail;go_ret;first|exact⟨R,rc,vs,rfl,H1.out,H2.out,H3.out,h4⟩|exact⟨R,rc,rfl,vs,H1.out,H2.out,H3.out,h4⟩
def Kl(a:rV)(R:Option Addr)(rc:Nat):Value:= .agg #[.int .u64 a.id,.int .i64 a.c.kind,.int .i64 a.c.s,.int .u64 a.c.t,.int .i64 a.c.x,.int .i64 a.e,.int .u64 a.v,.slice R a.l.length rc]
theorem F4(a:Addr)(w:World):(method 145 77 (.agg #[.pointer (some a)]) "Done").run prog w= .ok (408,.pointer (some a)) w:=by kernel_rfl
theorem aiE(a:Addr)(w:World):(method 145 77 (.agg #[.pointer (some a)]) "clepsydra/cluster.on").run prog w= .ok (413,.agg #[.pointer (some a)]) w:=by kernel_rfl
theorem aiF{B aoY:Nat}{j:dT}{K X:aD}{w:World}(H:gJ B aoY j K X w)(hl:(ao4 j).l.length<=1000000):
 Calls prog 88 #[mE aoY] w λe w'=>e= .returned (.bool (lk j))/\aoV w w':=by
 have iT:=aoU (R9 H hl);have hm:=F4;unfold mE;clear H hl;go_enter func88,ntmps88
 go_wp2_with fail;refine iT.out.mono ?_;rintro e w1⟨R,rc,rfl,ho,hu⟩;go_wp2_with fail;go_ret;exact⟨rfl,hu.trans ((aoV.refl _).alloc _)⟩
theorem aiG(R:Option Addr)(rc:Nat)(w:World):Calls prog 137 #[.slice R 0 rc,.func (.func 88) #[] #[]] w λe w'=>e= .returned (.int .i64 (-1))/\w'=w:=by
 go_enter func137,ntmps137
 go_wp2_with fail;go_loopw[8] (λi wr=>i= .int .i64 0/\wr=w) (λi _=>0)
 case atStart=>exact⟨rfl,rfl⟩
 case round=>
  obtain⟨rfl,rfl⟩:=hrel;go_wp2_with fail;go_ret;exact⟨rfl,rfl⟩
theorem R4{B aoY:Nat}{j:dT}{K X:aD}{w:World}(b rc:Nat)(H:gJ B aoY j K X w)(hA:cy K X w)(hl:(ao4 j).l.length<=1000000)(hc:w.cell? ⟨b,0,none⟩=some (mE aoY)):
 Calls prog 137 #[.slice (some ⟨b,0,none⟩) 1 rc,.func (.func 88) #[] #[]] w λe w'=>e= .returned (.int .i64 (if lk j=true then 0 else -1))/\aoV w w':=by
 have ft:=aoU (aiF H hl);have hb:b<w.heap.size:=Lib.lt_of_cell hc;clear H hl;generalize mE aoY=anZ at *;generalize oa:lk j=fd at *;clear oa;go_enter func137,ntmps137
 go_wp2_with fail;go_loopw[8] (λi wr=>(i= .int .i64 0/\wr=w)\/(i= .int .i64 1/\fd=false/\aoV w wr)) (λi _=>1-(intOf i).toNat)
 case atStart=>exact .inl ⟨rfl,rfl⟩
 case round=>
  rcases hrel with⟨rfl,rfl⟩|⟨rfl,oa,hu⟩
  .go_wp2_with fail;refine ft.out.mono ?_;rintro e w1⟨rfl,hu⟩;cases fd
   .go_wp2_with fail;exact⟨.inr ⟨rfl,by first|rfl|trivial,hu⟩,by simp[intOf]⟩
   .go_wp2_with fail;go_ret;exact⟨rfl,hu⟩
  .subst oa;go_wp2_with fail;go_ret;exact⟨rfl,hu⟩
theorem aiH(W:World)(ty:TypeId)(b c:Nat)(x:Value)(hc:W.cell? ⟨b,0,none⟩=some x)(hf:W.frozen? ⟨b,0,none⟩=false):
 (Builtin.clear_ #[64] ty #[.slice (some ⟨b,0,none⟩) 1 c]).run prog W= .ok (.tuple #[]) (W.setCell ⟨b,0,none⟩ .nilIface):=by
 have hv:∀w,(zeroValue 132).run prog w= .ok .nilIface w:=λw=>by
  have apd:Tryz.t132.zero=some .nilIface:=by kernel_rfl
  unfold zeroValue;simp[go_sem,apd]
 have h1:∀j,j< [Value.nilIface].length->(W.cell? ⟨b,0+0+j,none⟩).isSome=true:=λj hj=>by
  have e:j=0:=by simpa using hj
  rw[e,hc];rfl
 have h2:∀j,j< [Value.nilIface].length->W.frozen? ⟨b,0+0+j,none⟩=false:=λj hj=>by
  have e:j=0:=by simpa using hj
  rw[e];exact hf
 have hst:=run_storeCells_cells (P:=prog) b 0 [.nilIface] 0 W h1 h2 (by intro v vg;simp at vg;rw[vg];rfl);simp only[Nat.add_zero] at hst;have CT:Builtin.zeroCells (Value.nilIface).cells 1= #[.nilIface]:=by
  apply Array.ext_getElem?;intro j;simp[Builtin.zeroCells,Value.cells]
  try (rcases j with _|j <;>simp)
 simp[Builtin.clear_,run_underlying underlying64,hv,CT,hst]
 rfl
theorem aiI(R:Option Addr)(rc:Nat)(w:World):Calls prog 87 #[.slice R 0 rc,.func (.func 88) #[] #[]] w λe w'=>e= .returned (.slice R 0 rc)/\w'=w:=by
 have fS:=aoU (aiG R rc w);go_enter func87,ntmps87
 go_wp2_with fail;refine fS.out.mono ?_;rintro e w1⟨rfl,rfl⟩;go_wp2_with fail;go_ret;exact⟨rfl,rfl⟩
theorem aiJ{B aoY:Nat}{j:dT}{K X:aD}{w:World}(b rc:Nat)(H:gJ B aoY j K X w)(hA:cy K X w)(hl:(ao4 j).l.length<=1000000)(hc:w.cell? ⟨b,0,none⟩=some (mE aoY))(oa:lk j=false):
 Calls prog 87 #[.slice (some ⟨b,0,none⟩) 1 rc,.func (.func 88) #[] #[]] w λe w'=>e= .returned (.slice (some ⟨b,0,none⟩) 1 rc)/\aoV w w':=by
 have fS:=aoU (R4 b rc H hA hl hc);rw[oa] at fS;clear H hl hc oa;go_enter func87,ntmps87
 go_wp2_with fail;refine fS.out.mono ?_;rintro e w1⟨rfl,hu⟩;go_wp2_with fail;go_ret;exact⟨rfl,hu⟩
theorem aiK{B aoY:Nat}{j:dT}{K X:aD}{w:World}(b rc:Nat)(hrc:1<=rc)(H:gJ B aoY j K X w)(hA:cy K X w)(hl:(ao4 j).l.length<=1000000)(hc:w.cell? ⟨b,0,none⟩=some (mE aoY))(hf:w.frozen? ⟨b,0,none⟩=false)(oa:lk j=true):
 Calls prog 87 #[.slice (some ⟨b,0,none⟩) 1 rc,.func (.func 88) #[] #[]] w λe w'=>e= .returned (.slice (some ⟨b,0,none⟩) 0 rc)/\∃w1,aoV w w1/\w'=w1.setCell ⟨b,0,none⟩ .nilIface:=by
 have fS:=aoU (R4 b rc H hA hl hc);rw[oa] at fS;have hb:b<w.heap.size:=Lib.lt_of_cell hc;have cn:∀(W:World)(ty:TypeId)(c:Nat),aoV w W->(Builtin.clear_ #[64] ty #[.slice (some ⟨b,0,none⟩) 1 c]).run prog W= .ok (.tuple #[]) (W.setCell ⟨b,0,none⟩ .nilIface):=λW ty c hu=>aiH W ty b c (mE aoY) ((mv (a:=⟨b,0,none⟩) (hu.block b hb)).trans hc) ((World.frozen?_of_block (a:=⟨b,0,none⟩) (hu.block b hb)).trans hf)
 have pV:=aoU cn;have iS:(1:Int)<=(rc:Int):=by omega
 have z2:(0:Int)<=(rc:Int):=by omega
 have z3:¬rc=0:=by omega
 clear H hl hc oa cn;go_enter func87,ntmps87
 go_wp2_with fail;refine fS.out.mono ?_;rintro e w1⟨rfl,hu⟩;have cn:=λty c=>pV.out w1 ty c hu
 clear pV fS;go_wp2_with fail;go_loopw[5,6] (λk i wr=>k= .int .i64 0/\i= .int .i64 1/\wr=w1) (λk i _=>0)
 case atStart=>exact⟨rfl,rfl,rfl⟩
 case round=>
  obtain⟨rfl,rfl,rfl⟩:=hrel;go_wp2_with fail;go_ret;exact⟨rfl,wr,hu,rfl⟩
theorem aiL{B aoY i:Nat}{j:dT}{K X:aD}{w:World}(H:gJ B aoY j K X w)(hA:cy K X w)(v:em)(df:Gk i j v.m)(ht:v.m.t=i)(hv:Rd w w.heap.size 5 v.A v.m.l.length (bl v.m.l))(si:0<v.m.l.length->∀k,bW v.A k->¬X k)(hlen:v.m.l.length<=1000)(hok:gT v.m=true):
 Calls prog 413 #[.agg #[.pointer (some ⟨aoY,0,none⟩)],.agg #[.int .i64 v.m.k,.int .i64 v.m.f,.int .i64 v.m.t,.int .u64 v.m.id,.int .u64 v.m.n,.slice v.A v.m.l.length v.c]] w λe w'=>e= .returned (.slice none 0 0)/\∃K' X',gJ B aoY (gG j v.m) K' X' w'/\aO K X w K' X' w'/\cy K' X' w':=by
 have FU:=λW (hu:aoV w W)=>aiD (bH.call.up H hA hu) (hA.up hu) v df ht (hv.up hu) si hlen hok
 have aS:∀W w1 K' X',aoV w W->gJ B aoY (gG j v.m) K' X' w1->aO K X W K' X' w1->cy K' X' w1->∃K' X',gJ B aoY (gG j v.m) K' X' w1/\aO K X w K' X' w1/\cy K' X' w1:=λW w1 K' X' hu h1 h2 h3=>⟨K',X',h1,(aO.up hu).trans h2,h3⟩
 have bh:=aoU FU;have dz:=aoU aS;clear H hA df hv hlen hok FU aS si ht;go_enter func413,ntmps413
 go_wp2_with fail;refine(bh.out _ (((aoV.refl w).alloc _).alloc _)).mono ?_;rintro e w1⟨b,rfl,K',X',h1,h2,h3⟩;have Km:=aoU (dz.out _ w1 K' X' (((aoV.refl w).alloc _).alloc _) h1 h2 h3);clear h1 h2 h3 bh dz;go_wp2_with fail;go_ret;exact⟨rfl,Km.out⟩
section
variable{B:Nat}{g:dI}{c:cr}{K X:aD}{w:World}
structure aiM(g:dI)(c:cr)(i:Nat)(q:dU)(d:bA)(w:World):Prop where
 lt:i<g.aN.length
 row:∃b o,g.P=some ⟨b,o,none⟩/\w.cell? ⟨b,o+i,none⟩=some (.pointer (some ⟨q.aE,0,none⟩))
 pl:w.heap[q.aE]?=some (.cells (if d.up=true then ox q else MO q) 66 (0,0))
theorem aU.of(H:aU B g c K X w){i:Nat}{q:dU}{d:bA}(hq:g.aN[i]?=some q)(hd:c.aw[i]?=some d):aiM g c i q d w:=by
 have hi:=(gM hq);have hr:=H.flat.ps;obtain⟨b,o,e,hb,hc⟩:=rd_val (i:=i) hr (by rw[iZ];exact hi);refine⟨hi,⟨b,o,e,?_⟩,?_⟩
 .rw[hc,List.getElem_map];have:=(List.getElem?_eq_some_iff.1 hq).2;rw[this];rfl
 .obtain⟨aA,h1,-,-,-⟩:=H.place hq hd;unfold lm at h1;by_cases hu:d.up=true
  .rw[if_pos hu] at h1|-;exact(zH h1).pl
  .rw[if_neg hu] at h1|-;obtain⟨aA,uB,h1,-⟩:=h1;exact h1.1
theorem aU.get(H:aU B g c K X w){i:Nat}{d:bA}(hd:c.aw[i]?=some d):∃q,g.aN[i]?=some q:=by
 have hi:=(gM hd);exact⟨_,dh (by rw[H.ok.aw];exact hi)⟩
theorem T6(H:y4 g c w)(i:Nat)(hl:g.aN.length<=1000000):Calls prog 20 #[.pointer (some ⟨g.gc,0,none⟩),.int .i64 i] w λe w'=>e= .returned (.bool (decide (i<g.aN.length)))/\w'=w:=by
 have c0:w.cell? ⟨g.gc,0,none⟩=some (.slice g.P g.aN.length g.pc):=aoW H.bL 0;have z:¬((i:Int)<0):=by omega
 have z2:decide ((i:Int)<(g.aN.length:Int))=decide (i<g.aN.length):=by simp
 have z3:decide (0<=(i:Int))=true:=by simp
 clear H;go_enter func20,ntmps20
 go_wp2_with fail;go_ret;first|exact⟨rfl,rfl⟩|(rw[z2];exact⟨rfl,rfl⟩)|(refine⟨?_,rfl⟩;congr 2;simp)
theorem apB(H:aU B g c K X w){i:Nat}{d:bA}(hd:c.aw[i]?=some d)(hl:c.aw.length<=7):Calls prog 18 #[.pointer (some ⟨g.gc,0,none⟩),.int .i64 i] w λe w'=>e= .returned (.bool d.up)/\w'=w:=by
 obtain⟨q,hq⟩:=H.get hd;have P:=H.of hq hd;have dJ:g.aN.length<=7:=by rw[H.ok.aw];exact hl
 have xG:=aoU (T6 H.flat i (by omega));have c0:=aoW H.flat.bL 0;obtain⟨hi,⟨b,o,hP,hr⟩,pS⟩:=P;rw[show decide (i<g.aN.length)=true by simpa using hi] at xG;have Gq:((i:Int)<(g.aN.length:Int)):=by omega
 have BX:=aoU c0;clear H hd hq c0;cases hu:d.up
 .rw[hu] at pS;have p1:w.cell? ⟨q.aE,1,none⟩=some (.pointer none):=aoW pS 1;have c0:=BX.out;simp only[jC] at c0;rw[hP] at c0;clear pS hu;go_enter func18,ntmps18
  go_wp2_with fail;refine xG.out.mono ?_;rintro e w1⟨rfl,rfl⟩;go_wp2_with fail;go_ret;exact⟨rfl,rfl⟩
 .rw[hu] at pS;have p1:w.cell? ⟨q.aE,1,none⟩=some (.pointer (some ⟨q.gn,0,none⟩)):=aoW pS 1;have c0:=BX.out;simp only[jC] at c0;rw[hP] at c0;clear pS hu;go_enter func18,ntmps18
  go_wp2_with fail;refine xG.out.mono ?_;rintro e w1⟨rfl,rfl⟩;go_wp2_with fail;go_ret;exact⟨rfl,rfl⟩
theorem aiN(H:aU B g c K X w){i:Nat}{d:bA}(hd:c.aw[i]?=some d)(hu:d.up=true)(hj:d.jobs.length<8)(hl:c.aw.length<=7):Calls prog 22 #[.pointer (some ⟨g.gc,0,none⟩),.int .i64 i] w λe w'=>e= .returned (.int .i64 0)/\w'=w:=by
 obtain⟨q,hq⟩:=H.get hd;have P:=H.of hq hd;have mu:=H.ok.jobs i q d hq hd;have lP:=aoU (apB H hd hl);rw[hu] at lP;have c0:=aoW H.flat.bL 0;obtain⟨hi,⟨b,o,hP,hr⟩,pS⟩:=P;have Gq:((i:Int)<(g.aN.length:Int)):=by omega
 simp only[jC] at c0;rw[hP] at c0;rw[hu] at pS;have p1:w.cell? ⟨q.aE,3,none⟩=some (.slice q.J q.du.length q.fA):=aoW pS 3;have an1:¬((8:Int)<=(q.du.length:Int)):=by omega
 clear H hd hq pS mu hj;go_enter func22,ntmps22
 go_wp2_with fail;refine lP.out.mono ?_;rintro e w1⟨rfl,rfl⟩;go_wp2_with fail;go_ret;exact⟨rfl,rfl⟩
end
end
end Go.Proofs.YtfghplfgndppfaaGreatDoor
