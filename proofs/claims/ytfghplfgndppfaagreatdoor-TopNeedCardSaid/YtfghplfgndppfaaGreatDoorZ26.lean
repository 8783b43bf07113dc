/- Texts of this claim, joined: ClD3, ClK1, ClW5, ClW9, ClW10, ClK2, ClW7, ClW8. -/
import Derived.Test.YtfghplfgndppfaaGreatDoorZ25
set_option linter.unusedVariables false
set_option linter.unusedSimpArgs false
set_option maxRecDepth 100000
set_option maxHeartbeats 8000000
namespace Go.Proofs.YtfghplfgndppfaaGreatDoor
open Go.Proofs.Tryz
section
open Go.RowKit Go.Maps
theorem Y0(c:cr):(qx c).aw.length=c.aw.length/\c.cZ.length<=(qx c).cZ.length:=by
 unfold qx;split;exact⟨rfl,aZ _⟩
 .split;exact⟨rfl,aZ _⟩
  .split;exact⟨rfl,aZ _⟩
   .refine⟨List.length_set,?_⟩;rw[dG];omega
theorem uK.len{n:Nat}{c c':cr}(R:uK n c c'):c'.aw.length=c.aw.length/\c.cZ.length<=c'.cZ.length:=by
 induction R with
 |stop _ _=>exact⟨rfl,aZ _⟩
 | @step n c c' m r d h _ ih=>
  have:=Y0 c;exact⟨ih.1.trans this.1,bQ this.2 ih.2⟩
section
variable{B:Nat}{g:dI}{c:cr}{K X:aD}{w:World}
theorem akX{q:dU}{d:bA}(hp:w.heap[q.aE]?=some (.cells (if d.up=true then ox q else MO q) 66 (0,0)))(hj:d.up=true->q.du.length=0):
 Calls prog 57 #[.pointer (some ⟨q.aE,0,none⟩)] w λe w'=>e= .returned (.bool false)/\w'=w:=by
 by_cases hu:d.up=true
 .rw[if_pos hu] at hp;have p1:w.cell? ⟨q.aE,1,none⟩=some (.pointer (some ⟨q.gn,0,none⟩)):=aoW hp 1;have p3:w.cell? ⟨q.aE,3,none⟩=some (.slice q.J 0 q.fA):=(aoW hp 3).trans (by show some (Value.slice q.J q.du.length q.fA)=_;rw[hj hu]);clear hp hj hu;go_enter func57,ntmps57
  go_wp2_with fail;go_ret;exact⟨rfl,rfl⟩
 .rw[if_neg hu] at hp;have p1:w.cell? ⟨q.aE,1,none⟩=some (.pointer none):=aoW hp 1;clear hp hj hu;go_enter func57,ntmps57
  go_wp2_with fail;go_ret;exact⟨rfl,rfl⟩
theorem akY(H:aU B g c K X w)(hb:IF c=false)(hl:c.aw.length<=7):Calls prog 89 #[.slice g.P g.aN.length g.pc,.func (.func 57) #[] #[]] w λe w'=>e= .returned (.int .i64 (-1))/\w'=w:=by
 have hall:∀k,k<g.aN.length->∃b o aE,g.P=some ⟨b,o,none⟩/\w.cell? ⟨b,o+k,none⟩=some (.pointer (some ⟨aE,0,none⟩))/\Calls prog 57 #[.pointer (some ⟨aE,0,none⟩)] w λe w'=>e= .returned (.bool false)/\w'=w:=λk hk=>by
  obtain⟨d,hd⟩:∃d,c.aw[k]?=some d:=⟨_,dh (by rw[<- H.ok.aw];exact hk)⟩
  obtain⟨q,hq⟩:=H.get hd;obtain⟨-,⟨b,o,e1,e2⟩,bG⟩:=H.of hq hd;refine⟨b,o,q.aE,e1,e2,akX bG (λhu=>?_)⟩;have h1:=H.ok.jobs k q d hq hd;unfold IF at hb;have h2:=List.any_eq_false.1 hb d (lW hd);rw[hu] at h2;have h3:d.jobs= []:=by simpa using h2
  rw[h1,h3];rfl
 have B6:=aoU hall;obtain⟨n,hn⟩:=bB g.aN.length
 have Bw:n<=7:=by rw[hn,H.ok.aw];exact hl
 rw[<- hn] at B6|-;generalize g.P=P at *;clear H hb hl hall hn;go_enter func89,ntmps89
 go_wp2_with fail;go_loopw[8] (λi wr=>∃k:Nat,i= .int .i64 k/\k<=n/\wr=w) (λi _=>n-(intOf i).toNat)
 case atStart=>exact⟨0,rfl,Nat.zero_le _,rfl⟩
 case round=>
  obtain⟨k,rfl,hk,rfl⟩:=hrel;by_cases hkn:k<n
  .obtain⟨b,o,aE,rfl,hc,fe⟩:=B6.out k hkn;have gD:=aoU fe;clear fe;go_wp2_with fail;refine gD.out.mono ?_;rintro e w1⟨rfl,rfl⟩;go_wp2_with fail;exact⟨⟨k+1,by go_num,by omega,by trivial⟩,by simp[intOf];omega⟩
  .obtain rfl:k=n:=by omega
   go_wp2_with fail;go_ret;first|exact⟨rfl,rfl⟩|exact⟨rfl,trivial⟩|exact⟨trivial,rfl⟩
theorem akZ(H:aU B g c K X w)(hb:IF c=false)(hl:c.aw.length<=7):Calls prog 30 #[.pointer (some ⟨g.gc,0,none⟩)] w λe w'=>e= .returned (.bool false)/\w'=w:=by
 have xR:Calls prog 56 #[.slice g.P g.aN.length g.pc,.func (.func 57) #[] #[]] w λe w'=>e= .returned (.bool false)/\w'=w:=by
  have fS:=aoU (akY H hb hl);clear H hb hl;go_enter func56,ntmps56
  go_wp2_with fail;refine fS.out.mono ?_;rintro e w1⟨rfl,rfl⟩;go_wp2_with fail;go_ret;exact⟨rfl,rfl⟩
 have ak0:=aoU xR;have c0:w.cell? ⟨g.gc,0,none⟩=some (.slice g.P g.aN.length g.pc):=aoW H.flat.bL 0;clear H hb hl xR;go_enter func30,ntmps30
 go_wp2_with fail;refine ak0.out.mono ?_;rintro e w1⟨rfl,rfl⟩;go_wp2_with fail;go_ret;exact⟨rfl,rfl⟩
def OT(B:Nat)(g:dI)(c':cr)(K X:aD)(w w':World):Prop:=∃(g':dI)(K' X':aD),g'.gc=g.gc/\aU B g' c' K' X' w'/\aO K X w K' X' w'
theorem U0{n:Nat}{c':cr}(H:aU B g c K X w)(R:uK n c c')(hl:c.aw.length<=7)(ha:c'.cZ.length<=1000)(hn:n<=1000000):
 Calls prog 12 #[.pointer (some ⟨g.gc,0,none⟩),.int .i64 n] w λe w'=>e= .returned (.bool true)/\OT B g c' K X w w':=by
 have td:max (n:Int) 0=(n:Int):=by omega
 have dr:=aoU H;have fJ:=aoU R;have iw:=aoU ha;have bU:=aoU hl;clear H R ha hl;go_enter func12,ntmps12
 go_wp2_with fail;go_loopw[8] (λi wr=>∃(k:Nat)(g1:dI)(c1:cr)(fO aA:aD),i= .int .i64 k/\k<=n/\uK (n-k) c1 c'/\g1.gc=g.gc/\aU B g1 c1 fO aA wr/\aO K X w fO aA wr/\c1.aw.length<=7) (λi _=>n-(intOf i).toNat)
 case atStart=>exact⟨0,g,c,K,X,rfl,Nat.zero_le _,fJ.out,rfl,dr.out,aO.refl K X w,bU.out⟩
 case round=>
  obtain⟨k,g1,c1,fO,aA,rfl,hk,hR,hg,H1,qE,pF⟩:=hrel;obtain⟨m,hm⟩:=bB (n-k)
  rw[<- hm] at hR;obtain⟨cD,n2,a2,x2,ex,put⟩:=H1.TF;have my:=aoU (acz n2);have hml:g1.ms.length=c1.net.length:=by rw[<- H1.ok.net,iZ]
  have PY:wr.cell? ⟨g1.gc,2,none⟩=some (.pointer (some ⟨g1.gt,0,none⟩)):=aoW H1.flat.bL 2;rw[hg] at PY;rw[hml] at my;clear put n2 a2 x2 ex hml;cases hR with
  |stop h1 h2=>
   have hkn:k<n:=by omega
   have gD:=aoU (akZ H1 h2 pF);rw[hg] at gD;have dz:=aoU (show OT B g c' K X w wr from⟨g1,fO,aA,hg,H1,qE⟩);rw[h1] at my;clear H1 qE h1 h2 pF hg hm fJ dr;go_wp2_with fail;refine my.out.mono ?_;rintro e w1⟨rfl,rfl⟩;rw[show(([]:List eU).length:Int)=0 from rfl];go_wp2_with fail;refine gD.out.mono ?_;rintro e w1⟨rfl,rfl⟩;go_wp2_with fail;go_ret;exact⟨rfl,dz.out⟩
  | @step n' _ _ aoo rr d df FQ=>
   have hkn:k<n:=by omega
   have hn':n'=n-(k+1):=by omega
   have hlen:=FQ.len;have hdl:=Y0 c1;have zt:=aoU (akR H1 df pF (by have:=iw.out;omega));rw[hg] at zt;obtain⟨len,U1⟩:=bB c1.net.length
   have hpos:0<len:=by rw[U1,df.net];simp
   rw[<- U1] at my;have zp:decide ((0:Int)<(len:Int))=true:=by simp;omega
   have M':=aoU hg;have vD:=aoU qE;have sX:=aoU FQ;have DS:=aoU hn';have hl2:(qx c1).aw.length<=7:=by omega
   clear H1 qE df pF hg hm fJ dr FQ hn' hlen hdl U1;go_wp2_with fail;refine my.out.mono ?_;rintro e w1⟨rfl,rfl⟩;go_wp2_with fail;refine zt.out.mono ?_;rintro e w2⟨rfl,g2,jY,BR,kM,H2,pu⟩;have rE:=aoU H2;have jo:=aoU (vD.out.trans pu);have HN:=aoU (kM.trans M'.out);clear H2 pu kM zt my zp hpos;go_wp2_with fail;exact⟨⟨k+1,g2,qx c1,jY,BR,by go_num,by omega,by rw[<- DS.out];exact sX.out,HN.out,rE.out,jo.out,hl2⟩,by simp[intOf];omega⟩
end
theorem OU{w:World}{base n c:Nat}{e:TypeId}{sz:Nat}{A:Option Addr}{xs:List Value}(h:w.ownsRow base e sz (.slice A n c) n xs)(hn:0<n):∃b,A=some ⟨b,0,none⟩/\∀j u,xs[j]?=some u->w.cell? ⟨b,j,none⟩=some u:=by
 obtain⟨gl,rfl,-,-⟩:=El h hn;refine⟨gl,rfl,λj u hu=>?_⟩;obtain⟨b,o,e1,-,hc⟩:=(Rd.own h).2 hn;injection e1 with e1;injection e1 with e1 e2;subst e1 e2;have:=hc j u hu
 rwa[dV] at this
def ak1(B:Nat)(g:dI)(c':cr)(an:rV)(K X:aD)(w:World)(e:Ending)(w':World):Prop:=∃(R:Option Addr)(rc:Nat),e= .returned (.tuple #[Kl an R rc,.bool true])/\∃(g':dI)(K' X':aD),g'.gc=g.gc/\aU B g' c' K' X' w'/\aO K X w K' X' w'/\Rd w' w'.heap.size 5 R an.l.length (bl an.l)/\∀k,bW R k->¬X' k
section
variable{B i:Nat}{g:dI}{c c':cr}{d:bA}{K X:aD}{w:World}{a:ol}{an:rV}
theorem S8(H:aU B g c K X w)(df:zU c i a d)(hR:uK 2000 (gH c i a).1 c')(pre:List rV)(hp:c'.cZ=pre++[an])(dJ:pre.length<=1)(hid:an.id=(gH c i a).2)(he:an.e=0)(hls:∀x∈c'.cZ,x.l.length<=1000):
 Calls prog 7 #[.pointer (some ⟨g.gc,0,none⟩),.int .i64 i,.agg #[.int .i64 a.kind,.int .i64 a.s,.int .u64 a.t,.int .i64 a.x]] w λe w'=>ak1 B g c' an K X w e w':=by
 obtain⟨wb,cN⟩:=bB ((w.alloc (.cells #[.int .i64 a.kind,.int .i64 a.s,.int .u64 a.t,.int .i64 a.x] 29)).alloc (.cells #[.int .u64 0,.int .i64 0,.int .i64 0,.int .u64 0,.int .i64 0,.int .i64 0,.int .u64 0,.slice none 0 0] 32))
 have aX:aoV w wb:=by rw[cN];exact((aoV.refl w).alloc _).alloc _
 have fe:wb.heap[w.heap.size]?=some (.cells #[.int .i64 a.kind,.int .i64 a.s,.int .u64 a.t,.int .i64 a.x] 29 (0,0)):=by rw[cN];exact aH ((aoV.refl _).alloc _) (bp w _)
 have ao0:wb.heap[w.heap.size+1]?=some (.cells #[.int .u64 0,.int .i64 0,.int .i64 0,.int .u64 0,.int .i64 0,.int .i64 0,.int .u64 0,.slice none 0 0] 32 (0,0)):=by
  rw[cN];have:=bp (w.alloc (.cells #[.int .i64 a.kind,.int .i64 a.s,.int .u64 a.t,.int .i64 a.x] 29)) (.cells #[.int .u64 0,.int .i64 0,.int .i64 0,.int .u64 0,.int .i64 0,.int .i64 0,.int .u64 0,.slice none 0 0] 32)
  rwa[fF] at this
 have K6:=H.up aX;have D6:¬X (w.heap.size+1):=λh=>by have:=(H.lt h).2;omega
 have E5:¬K (w.heap.size+1):=λh=>by have:=H.jA.lt _ h;omega
 have fj:(gH c i a).1.aw.length<=7:=by
  have h1:(gH c i a).1.aw.length=c.aw.length:=by
   unfold gH;rw[df.nd];exact List.length_set
  rw[h1];exact df.n
 have FC:=aoU (Um K6 df);obtain⟨id,NM⟩:=bB ((gH c i a).2)
 rw[<- NM] at FC hid;have ak2:=aoU hR;have ib:=aoU hp;have oh:=aoU dJ;have ft:=aoU he;have oN:=aoU hls;have U2:=aoU fj;have iD:=aoU cN;have Ev:=aoU ao0;have ak3:=aoU aX;have U3:=aoU hid;have Ou:=aoU (And.intro D6 E5);obtain⟨m0,m1,m2,m3⟩:=qb fe;clear H df hR hp dJ he hls fj cN fe ao0 aX K6 hid NM D6 E5;go_enter func7,ntmps7
 go_wp2_with fail;rw[<- iD.out];clear iD;generalize hbc:w.heap.size=bc at *;go_loopw[8] (λt wr=>t= .int .i64 0/\wr=wb) (λ_ _=>0)
 case atStart=>exact⟨rfl,rfl⟩
 case round=>
  obtain⟨rfl,rfl⟩:=hrel;go_wp2_with fail;refine FC.out.mono ?_;rintro e w1⟨rfl,g1,fO,aA,hg1,H1,qE⟩;have x5:=(aO.up (K:=K) (X:=X) ak3.out).trans qE;obtain⟨kz,TV,ET⟩:=qE.box Ev.out Ou.out.1 Ou.out.2;have KH:=aoU (U0 H1 ak2.out U2.out (by rw[ib.out,dG,List.length_singleton];have:=oh.out;omega) (by decide));rw[hg1] at KH;have rD:=aoU hg1;have VW:=aoU x5;clear H1 qE x5 hg1 FC m0 m1 m2 m3;go_wp2_with fail;refine KH.out.mono ?_;rintro e w2⟨rfl,g2,jY,cD,ex,H2,pu⟩;have bk:=VW.out.trans pu;obtain⟨il,jq,X8⟩:=pu.box kz TV ET
  have F8:g2.gc=g.gc:=ex.trans rD.out;have J6:c'.cZ.length<=2:=by rw[ib.out,dG,List.length_singleton];have:=oh.out;omega
  have Ef:=aoU (er H2 (by omega) (λx hx=>by have:=oN.out x hx;omega));rw[F8] at Ef;have rE:=aoU H2;have ak4:=aoU bk;have sX:=aoU il;have yn:=aoU F8;clear H2 pu bk ex kz il TV ET KH VW rD J6 F8;go_wp2_with fail;refine Ef.out.mono ?_;rintro e w3⟨R,rc,vs,rfl,hrow,hvs,hit,bV⟩;have H3:=rE.out.up bV;have pr:=ak4.out.trans (aO.up (K:=jY) (X:=cD) bV);have GI:=aH bV sX.out;have iy:∀k,w2.heap.size<=k->¬cD k:=λk h1 h2=>by have:=(rE.out.lt h2).2;omega
  rw[ib.out] at hvs hrow|-;have U4:∃(us:List jZ)(u:jZ),vs=us++[u]/\us.length=pre.length/\u.a=an:=by
   rcases List.eq_nil_or_concat vs with h|⟨us,u,h⟩
   .rw[h] at hvs;exact absurd hvs.symm (by simp)
   .rw[List.concat_eq_append] at h;rw[h,kU] at hvs;have h2:=List.append_inj' hvs rfl;refine⟨us,u,h,by rw[<- h2.1,iZ],?_⟩;have h3:=h2.2;simpa using h3
  obtain⟨us,u,rfl,Ho,aQ⟩:=U4;obtain⟨ln,uh⟩:=bB an.l.length
  have BS:apc u= [.int .u64 id,.int .i64 an.c.kind,.int .i64 an.c.s,.int .u64 an.c.t,.int .i64 an.c.x,.int .i64 0,.int .u64 an.v,.slice u.A ln u.c]:=by
   unfold apc;rw[aQ,U3.out,ft.out,uh];rfl
  have cz:∃rc,ej w3 w2.heap.size u.A ln rc an.l:=by
   obtain⟨rc,ho⟩:=hit u (List.mem_append_right _ (List.mem_singleton_self _));rw[aQ,<- uh] at ho;exact⟨rc,ho⟩
  have J2:=aoU cz;have my:=aoU uh;have OV:=aoU (And.intro jq X8);have ke:Hid (w.heap.size<=bc):=aoU (by rw[hbc];exact aZ _);clear hit hvs cz uh aQ jq X8 hbc;rcases pre with _|⟨a0,_|⟨a1,r⟩⟩
  .have pG:us= []:=List.eq_nil_of_length_eq_zero Ho;subst pG;rw[show([]++[an]:List rV).length=1 from rfl] at hrow|-;obtain⟨gl,eG,hcs⟩:=OU hrow (by decide);subst eG;have hsel:∀j x,([.int .u64 id,.int .i64 an.c.kind,.int .i64 an.c.s,.int .u64 an.c.t,.int .i64 an.c.x,.int .i64 0,.int .u64 an.v,.slice u.A ln u.c]:List Value)[j]?=some x->j<8->w3.cell? ⟨gl,0*8+j,none⟩=some x:=λj x hx hj=>hcs _ _ ((J5 (l:= []++[u]) (k:=0) (v:=u) rfl j hj).trans (by rw[BS];exact hx))
   have d0:=hsel 0 _ rfl (by decide);have d1:=hsel 1 _ rfl (by decide);have d2:=hsel 2 _ rfl (by decide);have d3:=hsel 3 _ rfl (by decide);have d4:=hsel 4 _ rfl (by decide);have d5:=hsel 5 _ rfl (by decide);have d6:=hsel 6 _ rfl (by decide);have d7:=hsel 7 _ rfl (by decide);simp only[Nat.reduceMul,Nat.reduceAdd] at d0 d1 d2 d3 d4 d5 d6 d7;clear hsel hcs BS;have hal:=(aoV.refl w3).alloc (.cells #[.int .u64 id,.int .i64 an.c.kind,.int .i64 an.c.s,.int .u64 an.c.t,.int .i64 an.c.x,.int .i64 0,.int .u64 an.v,.slice u.A ln u.c] 32)
   have hbz:=bp w3 (.cells #[.int .u64 id,.int .i64 an.c.kind,.int .i64 an.c.s,.int .u64 an.c.t,.int .i64 an.c.x,.int .i64 0,.int .u64 an.v,.slice u.A ln u.c] 32);have KR:=aH hal GI;have hne:w3.heap.size≠bc+1:=by have:=aB GI;omega
   have apd:=aoW hbz 0;have lN:=aoW hbz 5;have C':=aoU hal;have pD:=aoU H3;have Ac:=aoU pr;have Eg:=aoU hbz;have KS:=aoU KR;clear hal H3 pr hbz KR GI hrow;go_wp2_with fail;generalize w3.alloc (.cells #[.int .u64 id,.int .i64 an.c.kind,.int .i64 an.c.s,.int .u64 an.c.t,.int .i64 an.c.x,.int .i64 0,.int .u64 an.v,.slice u.A ln u.c] 32)=w4 at *;obtain⟨U5,KT⟩:=bB w3.heap.size
   rw[<- KT] at Eg hne apd lN|-;clear KT;have hbz:=Eg.out;have KU:∀W,V.af (λk=>k=bc+1) w4 W->W.heap[U5]?=some (.cells #[.int .u64 id,.int .i64 an.c.kind,.int .i64 an.c.s,.int .u64 an.c.t,.int .i64 an.c.x,.int .i64 0,.int .u64 an.v,.slice u.A ln u.c] 32 (0,0)):=λW hK=>cL hK Eg.out hne
   have U6:=aoU KU;clear KU hbz d0 d1 d2 d3 d4 d5 d6 d7 apd lN
   apply V.iE (λj vs W=>V.af (λk=>k=bc+1) w4 W/\(j=0->W.heap[bc+1]?=some (.cells #[.int .u64 0,.int .i64 0,.int .i64 0,.int .u64 0,.int .i64 0,.int .i64 0,.int .u64 0,.slice none 0 0] 32 (0,0)))/\(j=1->W.heap[bc+1]?=some (.cells #[.int .u64 id,.int .i64 an.c.kind,.int .i64 an.c.s,.int .u64 an.c.t,.int .i64 an.c.x,.int .i64 0,.int .u64 an.v,.slice u.A ln u.c] 32 (0,0)))) (by kernel_rfl) (by kernel_rfl) (λvs=>⟨V.af.co (aoV.drew (aoV.refl w4)),λ_=>aH (aoV.drew (aoV.refl w4)) KS.out,λe=>absurd e (by decide)⟩)
   .intro aF aoX;iterate 4 (apply V.az.ok;(· intro j vs W hS;have hz:=U6.out W hS.1;obtain⟨d0,d1,d2,d3,d4,d5,d6,d7⟩:=yP hz;clear hS hz;go_simp;(try with_reducible rfl));(· rfl);simp only[au,Nat.reduceAdd])
    apply V.az.call undef;rfl
    .intro vs W hS cY ah;obtain⟨k1,k2,-⟩:=hS;have k2:=k2 rfl;obtain⟨bC,hks⟩:=J7 W (bc+1) 0 #[.int .u64 0,.int .i64 0,.int .i64 0,.int .u64 0,.int .i64 0,.int .i64 0,.int .u64 0,.slice none 0 0] (.int .u64 id) (.int .i64 an.c.kind) (.int .i64 an.c.s) (.int .u64 an.c.t) (.int .i64 an.c.x) (.int .i64 0) (.int .u64 an.v) (.slice u.A ln u.c) _ k2
     rw[show j5 #[.int .u64 0,.int .i64 0,.int .i64 0,.int .u64 0,.int .i64 0,.int .i64 0,.int .u64 0,.slice none 0 0] 0 (.int .u64 id) (.int .i64 an.c.kind) (.int .i64 an.c.s) (.int .u64 an.c.t) (.int .i64 an.c.x) (.int .i64 0) (.int .u64 an.v) (.slice u.A ln u.c)= #[.int .u64 id,.int .i64 an.c.kind,.int .i64 an.c.s,.int .u64 an.c.t,.int .i64 an.c.x,.int .i64 0,.int .u64 an.v,.slice u.A ln u.c] from rfl] at bC;have aS:=ah.out _ ⟨ci k1 hks,λe=>absurd e (by decide),λ_=>bC⟩;have aK:=aoU aS;obtain⟨e1,e2,bG⟩:=VN k2
     obtain⟨-,-,-,bT,dt,jV,kg,py⟩:=yP k2;have f1:=ay k2 0;have f2:=ay k2 1;have f3:=ay k2 2;have f4:=ay k2 3;have f5:=ay k2 4;have f6:=ay k2 5;have f7:=ay k2 6;have f8:=ay k2 7;clear ah aS bC hks k1 k2
     (try dsimp only at aK|-)
     (try simp only[dV] at aK)
     go_simp;exact aK.out
    simp only[au,Nat.reduceAdd];iterate 1 (apply V.az.ok;(· intro j vs W hS;clear hS;go_simp;(try with_reducible rfl));(· rfl);simp only[au,Nat.reduceAdd])
    apply V.az.fin;intro vs ag hS;obtain⟨sG,-,k2⟩:=hS;have k2:=k2 rfl;refine aoX.out _ _ ?_;clear aoX
    (try dsimp only)
    obtain⟨e0,e1,e2,bG,bT,dt,jV,kg⟩:=yP k2;go_wp2_with fail;refine dm (v:= .tuple #[.agg #[.int .u64 id,.int .i64 an.c.kind,.int .i64 an.c.s,.int .u64 an.c.t,.int .i64 an.c.x,.int .i64 0,.int .u64 an.v,.slice u.A ln u.c],.bool true]) (by simp[results,results7,go_sem,e0,e1,e2,bG,bT,dt,jV,kg]) rfl ?_;obtain⟨ak5,ho⟩:=J2.out;have uH:=C'.out;have ui:=el ho uH;have Ke:=iC ui sG (λk hk e=>by
     have e:k=bc+1:=e;obtain⟨cs,z,q1⟩:=iL ui hk;rw[e] at q1;exact absurd (cS q1 KS.out) (by decide))
    refine⟨u.A,u.c,?_,g2,jY,cD,yn.out,(pD.out.up uH).keep sG (λk hk e=>OV.out.1 (by have e:k=bc+1:=e;rw[<- e];exact hk)) (λk hk e=>OV.out.2 (by have e:k=bc+1:=e;rw[<- e];exact hk)),?_,?_,?_⟩
    .unfold Kl;rw[U3.out,ft.out,<- my.out];rfl
    .have dP:=Ac.out.trans (aO.up (K:=jY) (X:=cD) uH);exact⟨⟨sG.os.trans dP.kept.os,sG.tape.trans dP.kept.tape,sG.output.trans dP.kept.output,bQ dP.kept.size sG.size,λk hk hx=>(sG.block k (cg hk dP.kept.size) (by show¬k=bc+1;have:=ke.out;omega)).trans (dP.kept.block k hk hx)⟩,dP.aJ,dP.grow,dP.shut⟩
    .rw[<- my.out];exact Rd.own Ke
    .intro k ⟨ad,e1,e2⟩;have h9:=ho;rw[e1] at h9;rw[<- e2];exact iy _ (jO h9 ad.block rfl).1
   .kernel_rfl
  .obtain⟨ny,pG⟩:∃ny,us= [ny]:=by
    match us,Ho with
    | [x],_=>exact⟨x,rfl⟩
   subst pG;rw[show([a0]++[an]:List rV).length=2 from rfl] at hrow|-;obtain⟨gl,eG,hcs⟩:=OU hrow (by decide);subst eG;have hsel:∀j x,([.int .u64 id,.int .i64 an.c.kind,.int .i64 an.c.s,.int .u64 an.c.t,.int .i64 an.c.x,.int .i64 0,.int .u64 an.v,.slice u.A ln u.c]:List Value)[j]?=some x->j<8->w3.cell? ⟨gl,1*8+j,none⟩=some x:=λj x hx hj=>hcs _ _ ((J5 (l:= [ny]++[u]) (k:=1) (v:=u) rfl j hj).trans (by rw[BS];exact hx))
   have d0:=hsel 0 _ rfl (by decide);have d1:=hsel 1 _ rfl (by decide);have d2:=hsel 2 _ rfl (by decide);have d3:=hsel 3 _ rfl (by decide);have d4:=hsel 4 _ rfl (by decide);have d5:=hsel 5 _ rfl (by decide);have d6:=hsel 6 _ rfl (by decide);have d7:=hsel 7 _ rfl (by decide);simp only[Nat.reduceMul,Nat.reduceAdd] at d0 d1 d2 d3 d4 d5 d6 d7;clear hsel hcs BS;have hal:=(aoV.refl w3).alloc (.cells #[.int .u64 id,.int .i64 an.c.kind,.int .i64 an.c.s,.int .u64 an.c.t,.int .i64 an.c.x,.int .i64 0,.int .u64 an.v,.slice u.A ln u.c] 32)
   have hbz:=bp w3 (.cells #[.int .u64 id,.int .i64 an.c.kind,.int .i64 an.c.s,.int .u64 an.c.t,.int .i64 an.c.x,.int .i64 0,.int .u64 an.v,.slice u.A ln u.c] 32);have KR:=aH hal GI;have hne:w3.heap.size≠bc+1:=by have:=aB GI;omega
   have apd:=aoW hbz 0;have lN:=aoW hbz 5;have C':=aoU hal;have pD:=aoU H3;have Ac:=aoU pr;have Eg:=aoU hbz;have KS:=aoU KR;clear hal H3 pr hbz KR GI hrow;go_wp2_with fail;generalize w3.alloc (.cells #[.int .u64 id,.int .i64 an.c.kind,.int .i64 an.c.s,.int .u64 an.c.t,.int .i64 an.c.x,.int .i64 0,.int .u64 an.v,.slice u.A ln u.c] 32)=w4 at *;obtain⟨U5,KT⟩:=bB w3.heap.size
   rw[<- KT] at Eg hne apd lN|-;clear KT;have hbz:=Eg.out;have KU:∀W,V.af (λk=>k=bc+1) w4 W->W.heap[U5]?=some (.cells #[.int .u64 id,.int .i64 an.c.kind,.int .i64 an.c.s,.int .u64 an.c.t,.int .i64 an.c.x,.int .i64 0,.int .u64 an.v,.slice u.A ln u.c] 32 (0,0)):=λW hK=>cL hK Eg.out hne
   have U6:=aoU KU;clear KU hbz d0 d1 d2 d3 d4 d5 d6 d7 apd lN
   apply V.iE (λj vs W=>V.af (λk=>k=bc+1) w4 W/\(j=0->W.heap[bc+1]?=some (.cells #[.int .u64 0,.int .i64 0,.int .i64 0,.int .u64 0,.int .i64 0,.int .i64 0,.int .u64 0,.slice none 0 0] 32 (0,0)))/\(j=1->W.heap[bc+1]?=some (.cells #[.int .u64 id,.int .i64 an.c.kind,.int .i64 an.c.s,.int .u64 an.c.t,.int .i64 an.c.x,.int .i64 0,.int .u64 an.v,.slice u.A ln u.c] 32 (0,0)))) (by kernel_rfl) (by kernel_rfl) (λvs=>⟨V.af.co (aoV.drew (aoV.refl w4)),λ_=>aH (aoV.drew (aoV.refl w4)) KS.out,λe=>absurd e (by decide)⟩)
   .intro aF aoX;iterate 4 (apply V.az.ok;(· intro j vs W hS;have hz:=U6.out W hS.1;obtain⟨d0,d1,d2,d3,d4,d5,d6,d7⟩:=yP hz;clear hS hz;go_simp;(try with_reducible rfl));(· rfl);simp only[au,Nat.reduceAdd])
    apply V.az.call undef;rfl
    .intro vs W hS cY ah;obtain⟨k1,k2,-⟩:=hS;have k2:=k2 rfl;obtain⟨bC,hks⟩:=J7 W (bc+1) 0 #[.int .u64 0,.int .i64 0,.int .i64 0,.int .u64 0,.int .i64 0,.int .i64 0,.int .u64 0,.slice none 0 0] (.int .u64 id) (.int .i64 an.c.kind) (.int .i64 an.c.s) (.int .u64 an.c.t) (.int .i64 an.c.x) (.int .i64 0) (.int .u64 an.v) (.slice u.A ln u.c) _ k2
     rw[show j5 #[.int .u64 0,.int .i64 0,.int .i64 0,.int .u64 0,.int .i64 0,.int .i64 0,.int .u64 0,.slice none 0 0] 0 (.int .u64 id) (.int .i64 an.c.kind) (.int .i64 an.c.s) (.int .u64 an.c.t) (.int .i64 an.c.x) (.int .i64 0) (.int .u64 an.v) (.slice u.A ln u.c)= #[.int .u64 id,.int .i64 an.c.kind,.int .i64 an.c.s,.int .u64 an.c.t,.int .i64 an.c.x,.int .i64 0,.int .u64 an.v,.slice u.A ln u.c] from rfl] at bC;have aS:=ah.out _ ⟨ci k1 hks,λe=>absurd e (by decide),λ_=>bC⟩;have aK:=aoU aS;obtain⟨e1,e2,bG⟩:=VN k2
     obtain⟨-,-,-,bT,dt,jV,kg,py⟩:=yP k2;have f1:=ay k2 0;have f2:=ay k2 1;have f3:=ay k2 2;have f4:=ay k2 3;have f5:=ay k2 4;have f6:=ay k2 5;have f7:=ay k2 6;have f8:=ay k2 7;clear ah aS bC hks k1 k2
     (try dsimp only at aK|-)
     (try simp only[dV] at aK)
     go_simp;exact aK.out
    simp only[au,Nat.reduceAdd];iterate 1 (apply V.az.ok;(· intro j vs W hS;clear hS;go_simp;(try with_reducible rfl));(· rfl);simp only[au,Nat.reduceAdd])
    apply V.az.fin;intro vs ag hS;obtain⟨sG,-,k2⟩:=hS;have k2:=k2 rfl;refine aoX.out _ _ ?_;clear aoX
    (try dsimp only)
    obtain⟨e0,e1,e2,bG,bT,dt,jV,kg⟩:=yP k2;go_wp2_with fail;refine dm (v:= .tuple #[.agg #[.int .u64 id,.int .i64 an.c.kind,.int .i64 an.c.s,.int .u64 an.c.t,.int .i64 an.c.x,.int .i64 0,.int .u64 an.v,.slice u.A ln u.c],.bool true]) (by simp[results,results7,go_sem,e0,e1,e2,bG,bT,dt,jV,kg]) rfl ?_;obtain⟨ak5,ho⟩:=J2.out;have uH:=C'.out;have ui:=el ho uH;have Ke:=iC ui sG (λk hk e=>by
     have e:k=bc+1:=e;obtain⟨cs,z,q1⟩:=iL ui hk;rw[e] at q1;exact absurd (cS q1 KS.out) (by decide))
    refine⟨u.A,u.c,?_,g2,jY,cD,yn.out,(pD.out.up uH).keep sG (λk hk e=>OV.out.1 (by have e:k=bc+1:=e;rw[<- e];exact hk)) (λk hk e=>OV.out.2 (by have e:k=bc+1:=e;rw[<- e];exact hk)),?_,?_,?_⟩
    .unfold Kl;rw[U3.out,ft.out,<- my.out];rfl
    .have dP:=Ac.out.trans (aO.up (K:=jY) (X:=cD) uH);exact⟨⟨sG.os.trans dP.kept.os,sG.tape.trans dP.kept.tape,sG.output.trans dP.kept.output,bQ dP.kept.size sG.size,λk hk hx=>(sG.block k (cg hk dP.kept.size) (by show¬k=bc+1;have:=ke.out;omega)).trans (dP.kept.block k hk hx)⟩,dP.aJ,dP.grow,dP.shut⟩
    .rw[<- my.out];exact Rd.own Ke
    .intro k ⟨ad,e1,e2⟩;have h9:=ho;rw[e1] at h9;rw[<- e2];exact iy _ (jO h9 ad.block rfl).1
   .kernel_rfl
  .have:=oh.out;simp at this
end
def Cc(d:bA):bA:= { d with up:=true,now:=min d.ao.a 1099511627776,bE:=⟨d.ao.le,d.ao.le⟩,jobs:= [] }
theorem kf{B i aG gc aE n pc:Nat}{h:cQ}{d:bA}{K:aD}{w:World}{U7:Array Value}{P:Option Addr}{vs:List Value}(df:∀W,aoV w W->Calls prog 62 #[.pointer (some ⟨h.g,0,none⟩)] W (DI B h d K W))(hK:∀k,K k->k<w.heap.size)(hc:w.heap[gc]?=some (.cells U7 58 (0,0)))(hc0:U7[0]?=some (.slice P n pc))(hc1:U7[1]?=some (.int .u64 aG))(hr:Rd w w.heap.size 1 P n vs)(hi:i<vs.length)(bq:vs[i]= .pointer (some ⟨aE,0,none⟩))(hp:w.heap[aE]?=some (.cells #[.pointer (some ⟨h.g,0,none⟩),.pointer none,.pointer none,.slice none 0 0] 66 (0,0)))(ak6:¬aJ h gc)(Ai:¬aJ h aE)(U8:i<7)(hg:aG<=1099511627776)(hme:d.ao.a<=1000000000000/\d.ao.le<=1000000000000)(hB:B<=w.heap.size)(ak7:B<=aE)(BJ:∀k,K k->¬k=aE):
 Calls prog 17 #[.pointer (some ⟨gc,0,none⟩),.int .i64 i] w λe w'=>e= .returned (.int .i64 0)/\∃(q:dU)(X:aD),bF (ez B i aG q (Cc d)) K X w'/\q.aE=aE/\q.du= []/\q.sp.h.g=h.g/\V.af (λk=>aJ h k\/k=aE) w w'/\(∀k,X k->(aJ h k\/k=aE)\/w.heap.size<=k):=by
 have c0:=(aoW hc 0).trans hc0;obtain⟨b,o,rfl,hb,hrc⟩:=rd_val hr hi;rw[bq] at hrc;have iS:((i:Int)<(n:Int)):=by have:=HE hr;omega
 have hcell:∀W,V.af (aJ h) w W->W.cell? ⟨aE,0,none⟩=some (.pointer (some ⟨h.g,0,none⟩))/\W.cell? ⟨gc,1,none⟩=some (.int .u64 aG):=λW fI=>⟨aoW (cL fI hp Ai) 0,(aoW (cL fI hc ak6) 1).trans hc1⟩
 have cB:=aoU hcell;have nL:=aoU (λW (hW:aoV w W)=>ahz (i:=i) (aG:=aG) (df W hW) (λk hk=>cg (hK k hk) hW.size) U8 hg hme.1);have oq:=aoU hp;have KA:=aoU hK;have BX:=aoU c0;clear hcell hc hc0 hc1 hr bq hp df hK;have ak8:i<n:=by omega
 go_enter func17,ntmps17
 have c0:=BX.out;go_upto_region 2 with fail
 apply V.NB (V.lQ (λW=>V.af (aJ h) w W) (λW=>aoV w W) (λv W=>∃(p:Sp)(gn:Nat),v= .pointer (some ⟨gn,0,none⟩)/\p.h.g=h.g/\vt B p d K W/\W.heap[gn]?=some (.cells #[.int .i64 i,.pointer (some ⟨p.gs,0,none⟩),.int .u64 ((min d.ao.a 1099511627776:Nat):Int),.int .u64 aG] 153 (0,0))/\w.heap.size<=gn/\(∀k,ek p d k->aJ h k\/w.heap.size<=k)) (.int .i64 0) 9) (by kernel_rfl) (by kernel_rfl) (λL vs h0=>V.lQ.start (V.af.co (aoV.drew (aoV.refl w))) (aoV.drew (aoV.refl w)) h0)
 .intro aF aoX;iterate 9 (apply V.cE.Tp (by decide);(· intro vs W hb;obtain⟨d0,d1⟩:=cB.out W hb;clear hb;go_simp;(try with_reducible rfl));(· rfl);simp only[au,Nat.reduceAdd])
  apply V.cE.Tq;rfl
  .intro vs W hb hp cY ah;have bh:=aoU (nL.out W hp);have ib:=aoU hp;have zX:=aoU hb;clear hp hb;go_simp;refine bh.out.mono ?_;rintro e W'⟨p,gn,rfl,h1,h2,h3,h4,h5,h6⟩;exact ah.out _ W' (ci zX.out h5) ⟨p,gn,rfl,h1,h2,h3,bQ ib.out.size h4,λk hk=>(h6 k hk).imp id (λh=>bQ ib.out.size h)⟩
  simp only[au,Nat.reduceAdd];apply V.cE.Tr
  .intro vs W;go_simp
  .rfl
  simp only[au,Nat.reduceAdd];apply V.cE.Ts
  .intro vs v W hv
   (try dsimp only at hv|-)
   (try simp only[Nat.reduceAdd] at hv|-)
   rw[hv];go_simp
  .rfl
  simp only[au,Nat.reduceAdd];apply V.cE.Tt
  .intro vs v W hv
   (try dsimp only at hv|-)
   (try simp only[Nat.reduceAdd] at hv|-)
   rw[hv];go_simp
  .rfl
  simp only[au,Nat.reduceAdd];apply V.cE.Tv
  .intro vs W;go_simp
  .rfl
  simp only[au,Nat.reduceAdd];apply V.cE.Tw
  .intro vs W;go_simp
  .rfl
  simp only[au,Nat.reduceAdd];apply V.cE.Tx;intro vs v W v0 v1 v2 v4 hb hf;obtain⟨p,gn,rfl,e1,H1,fj,nE,jG⟩:=hf
  (try simp only[Nat.reduceAdd] at v0 v1 v2 v4)
  refine aoX.out _ _ ?_;clear aoX
  (try dsimp only)
  (try simp only[Nat.reduceAdd])
  (try simp only[Nat.reduceAdd] at v4)
  rw[v4];generalize vs 9=Tf at *;generalize vs 10=p5 at *;generalize vs 11=tg at *;have hsz:=hb.size;have hΔ:∀k,K k->k<W.heap.size:=λk hk=>cg (KA.out k hk) hsz
  have qF:=aoU (ZO fj rfl H1 hΔ);have oa:=ahy;have zI:=aoU H1;have U2:=aoU fj;have gD:=aoU hb;have apg:=aoU e1;have M6:=aoU jG;clear v0 v1 v2 v4 H1 fj hb e1 jG nL;go_wp2_with fail;refine qF.out.mono ?_;rintro e w2⟨rfl,aq⟩;have hG:=aoU (apW (B:=B) (K:=K) (w:=w2) i d.ao.le (by omega) (by omega) (bQ hB (bQ hsz aq.size)));clear qF;go_wp2_with fail;refine hG.out.mono ?_;rintro e w3⟨rfl,jN,bV⟩;have GJ:=aH (aq.trans bV) (cL gD.out oq.out Ai);have e1:=aoW GJ 1;have e2:=aoW GJ 2
  have iS:=ay GJ 1;have z2:=ay GJ 2;have hs1:=bM w3 aE 1 (.pointer (some ⟨gn,0,none⟩)) _ _ GJ;have hs2:=bM (w3.setCell ⟨aE,1,none⟩ (.pointer (some ⟨gn,0,none⟩))) aE 2 (.pointer (some ⟨w2.heap.size,0,none⟩)) _ _ hs1;have hk:=aoZ w3 _ aE 2 (.pointer (some ⟨w2.heap.size,0,none⟩)) (aoZ w3 w3 aE 1 (.pointer (some ⟨gn,0,none⟩)) (V.af.refl _ _));have jo:=aoU hs2;have U9:=aoU hk;have pT:=aoU jN;have aop:aE<w.heap.size:=aB oq.out;clear hs1 hs2 hk jN hG;go_wp2_with fail
  refine dm (v:= .int .i64 0) (by simp[results,results17,go_sem]) rfl ?_;have U':=aq.trans bV;have pD:=zI.out.up hΔ U';have hnn:∀k,k≠aE->∀o:Obj,w3.heap[k]?=some o->((w3.setCell ⟨aE,1,none⟩ (.pointer (some ⟨gn,0,none⟩))).setCell ⟨aE,2,none⟩ (.pointer (some ⟨w2.heap.size,0,none⟩))).heap[k]?=some o:=λk hne o ho=>cL (X:=λk=>k=aE) U9.out ho hne
  generalize ((w3.setCell ⟨aE,1,none⟩ (.pointer (some ⟨gn,0,none⟩))).setCell ⟨aE,2,none⟩ (.pointer (some ⟨w2.heap.size,0,none⟩)))=w4 at *;have ak9:¬ek p d aE:=JV pD GJ (.inl rfl);have ak':∀k,K k->¬k=aE:=BJ;have nK:vt B p d K w4:=pD.keep U9.out (λk hk e=>ak9 (e▸hk)) ak';have mr:vt B p (Cc d) K w4:=⟨nK.dk,nK.st,nK.mn,nK.am,nK.ao,nK.im,nK.bs,nK.cp⟩
  have rC:gn≠aE:=λe=>by omega
  have xW:w2.heap.size≠aE:=λe=>by
   have h9:=aq.size;omega
  refine⟨rfl,⟨aE,gn,w2.heap.size,p,none,0,[]⟩,_,ahA (q:=⟨aE,gn,w2.heap.size,p,none,0,[]⟩) (d:=Cc d) ?_ ak7 mr (hnn gn rC _ (aH U' U2.out)) (bQ hB nE) (hnn _ xW _ pT.out.1) pT.out.2.1 rfl rfl rfl rfl,rfl,rfl,apg.out,?_,?_⟩
  .rw[<- apg.out] at jo;exact jo.out
  .refine ci (eQ gD.out (λk hk=> .inl hk)) (ci (V.af.co U') (eQ U9.out (λk hk=> .inr hk)))
  .intro k hk;rcases hk with hk|hk|hk|hk
   .exact .inl (.inr hk)
   .exact(M6.out k hk).imp .inl id
   .right;have hk:k=gn:=hk;omega
   .right
    have hk:k=w2.heap.size:=hk;have h9:=aq.size;omega
 .kernel_rfl
theorem bF.snoc{B:Nat}{P:fy}{K Y:aD}{w:World} :∀{l:List fy}{X:aD},bF l K X w->P K Y w->(∀k,X k->¬Y k)->bF (l++[P]) K (λk=>X k\/Y k) w
 | [],X,h,hP,hd=>⟨Y,λ_=>False,hP,λ_ h=>h,λ_ _ h=>h,λk=>by
  have h':∀k,¬X k:=h;simp[h' k]⟩
 |Q::r,X,h,hP,hd=>by
  obtain⟨aA,cD,h1,h2,jX,hx⟩:=h;refine⟨aA,λk=>cD k\/Y k,h1,bF.snoc (B:=B) h2 hP (λk hk=>hd k ((hx k).2 (.inr hk))),λk hk hk2=>?_,λk=>by show(X k\/Y k)↔_;rw[hx k,or_assoc]⟩;rcases hk2 with hk2|hk2
  .exact jX k hk hk2
  .exact hd k ((hx k).2 (.inl hk)) hk2
theorem xx{B B':Nat}{h:cQ}{d:aV}{w:World}(H:bD B h d w)(hB:B'<=B):bD B' h d w:=
 ⟨H.hd,bQ hB H.base,jP H.files hB,H.ly,λi f x hf hx=>⟨(H.each i f x hf hx).blk,jP (H.each i f x hf hx).own hB,bQ hB (H.each i f x hf hx).base⟩,H.apart,H.names,H.cw,H.nl,⟨bQ hB H.tZ.1,bQ hB H.tZ.2⟩,jP H.turns hB⟩
theorem ala:jr prog 51 59 1 8:=jr.mk' underlying51 (z:= .pointer none) (by kernel_rfl) rfl (by decide)
theorem alb(k aG:Nat):(fu k aG).aw++[nd0]=(fu (k+1) aG).aw:=by
 simp[fu,List.replicate_succ']
theorem aU.more{B k aG gc:Nat}{g:dI}{X aA:aD}{w w':World}{q:dU}{L':Option Addr}{rc':Nat}(H:aU B g (fu k aG) (λ_=>False) X w)(yY:g.gc=gc)(hb:w'.heap[gc]?=some (.cells ((jC g (fu k aG)).setIfInBounds 0 (.slice L' (g.aN.length+1) rc')) 58 (0,0)))(hr:w'.ownsRow B 59 1 (.slice L' (g.aN.length+1) rc') (g.aN.length+1) (g.aN.map pR++[pR q]))(hL:∀k,bg L' k->bg g.P k\/w.heap.size<=k)(hp:bF (ez B k aG q nd0) (λ_=>False) aA w')(pX:∀k,aA k->w.heap.size<=k)(xb:∀k,bg L' k->¬aA k)(mu:q.du= [])(hK:V.af (λk=>k=gc\/bg g.P k) w w')(hlt:∀k,aA k->k<w'.heap.size):
 ∃X',aU B { g with P:=L',pc:=rc',aN:=g.aN++[q] } (fu (k+1) aG) (λ_=>False) X' w'/\∀k,X' k->X k\/w.heap.size<=k:=by
 subst yY;have hsz:∀k,X k->k<w.heap.size:=λk hk=>(H.lt hk).2
 have dJ:g.aN.length=k:=by have:=H.ok.aw;simpa[fu] using this
 obtain⟨⟨o1,o2,oW,xg,CL⟩,hl,hA⟩:=H;obtain⟨OW,j0,ha,⟨vZ,uO,iW,⟨OX,alc,hc,⟨OY,Rd,hd,⟨OZ,ald,he,⟨O0,aoq,hf,hend,f0,f1⟩,e0,e1⟩,d0,d1⟩,c0,c1⟩,b0,b1⟩,a0,a1⟩:=hl;have Ae:OW g.gc:=(ha.2.2 _).2 rfl;have Va:∀k,bg g.P k->vZ k:=λk hk=>(iW.2 k).2 hk
 have no:∀(Y:aD),(∀k,Y k->uO k/\¬vZ k)->∀k,Y k->¬(k=g.gc\/bg g.P k):=λY hY k hk h=>by
  rcases h with h|h
  .exact a0 k ((ha.2.2 _).2 h) ((b1 k).2 (.inr (hY k hk).1) |>λh=>h)
  .exact(hY k hk).2 (Va k h)
 have Af:∀k,uO k->X k:=λk hk=>(a1 k).2 (.inr ((b1 k).2 (.inr hk)))
 have kc:∀k,OX k->uO k/\¬vZ k:=λk hk=>⟨(c1 k).2 (.inl hk),λh=>b0 k h ((c1 k).2 (.inl hk))⟩
 have L1:∀k,alc k->uO k/\¬vZ k:=λk hk=>⟨(c1 k).2 (.inr hk),λh=>b0 k h ((c1 k).2 (.inr hk))⟩
 have KV:∀k,OY k->uO k/\¬vZ k:=λk hk=>L1 k ((d1 k).2 (.inl hk))
 have Z3:∀k,Rd k->uO k/\¬vZ k:=λk hk=>L1 k ((d1 k).2 (.inr hk))
 have KX:∀k,OZ k->uO k/\¬vZ k:=λk hk=>Z3 k ((e1 k).2 (.inl hk))
 have ale:∀k,ald k->uO k/\¬vZ k:=λk hk=>Z3 k ((e1 k).2 (.inr hk))
 have KY:∀k,O0 k->uO k/\¬vZ k:=λk hk=>ale k ((f1 k).2 (.inl hk))
 have nf:∀k,(λ_:Nat=>False) k->¬(k=g.gc\/bg g.P k):=λk h=>h.elim
 have jz:=bH.net.keep hc hK (no OX kc) nf;have hd':=bH.cZ.keep hd hK (no OY KV) nf;have he':=bH.cZ.keep he hK (no OZ KX) nf;have hf':=(bH.sf (Dp _ _ _)).keep hf hK (no O0 KY) nf;have U4:lm B (0+g.aN.length) aG q nd0=bF (ez B k aG q nd0):=by unfold lm;rw[if_pos (show nd0.up=true from rfl),dV,dJ]
 have alf:mq B aG 0 (g.aN++[q]) (fu (k+1) aG).aw=mq B aG 0 g.aN (fu k aG).aw++[bF (ez B k aG q nd0)]:=by
  rw[<- alb,YH q nd0 g.aN (fu k aG).aw 0 xg,U4]
 have gV:=bF.snoc (B:=B) hf' hp (λk hk hk2=>by have h1:=hsz k (Af k (KY k hk).1);have h2:=pX k hk2;omega);have O1:(g.aN++[q]).length=g.aN.length+1:=by rw[dG];rfl
 have vp:∀k,bg L' k->¬(uO k/\¬vZ k):=λk hk ⟨h1,h2⟩=>(hL k hk).elim (λh=>h2 (Va k h)) (λh=>by have:=hsz k (Af k h1);omega)
 have QZ:∀k,bg L' k->k<w'.heap.size:=λk ⟨a,e1,e2⟩=>by
  subst e1 e2;exact(jO hr a.block rfl).2
 refine⟨λk=>k=g.gc\/(bg L' k\/(OX k\/(OY k\/(OZ k\/(O0 k\/aA k))))),⟨⟨o1,o2,oW,?_,λi cP d2 eM dw=>?_⟩,?_,⟨λk _ h=>h,λk h=>h.elim⟩⟩,?_⟩
 .show(g.aN++[q]).length=(fu (k+1) aG).aw.length;rw[O1,dJ];simp[fu]
 .have eM:(g.aN++[q])[i]?=some cP:=eM;have dw:(fu (k+1) aG).aw[i]?=some d2:=dw;have iJ:d2.jobs= []:=by
   have:d2=nd0:=by
    obtain⟨h1,h2⟩:=List.getElem?_eq_some_iff.1 dw;rw[<- h2];simp[fu]
   rw[this];rfl
  by_cases hi:i<g.aN.length
  .rw[List.getElem?_append_left hi] at eM;obtain⟨d3,ur⟩:∃d,(fu k aG).aw[i]?=some d:=⟨_,dh (by rw[<- xg];exact hi)⟩
   have h9:=CL i cP d3 eM ur;have:d3=nd0:=by
    obtain⟨h1,h2⟩:=List.getElem?_eq_some_iff.1 ur;rw[<- h2];simp[fu]
   rw[h9,this,iJ];rfl
  .have hi2:i=g.aN.length:=by
    have:=(gM eM);rw[O1] at this;omega
   subst hi2;rw[List.getElem?_append_right (aZ _),Nat.sub_self] at eM;injection eM with eM;rw[<- eM,mu,iJ];rfl
 .refine⟨λk=>k=g.gc,_,?_,⟨λk=>bg L' k,_,?_,⟨OX,_,jz,⟨OY,_,hd',⟨OZ,_,he',⟨λk=>O0 k\/aA k,λ_=>False,?_,λ_ h=>h,λ_ _ h=>h,λk=>(or_false _).symm▸Iff.rfl⟩,?_,λk=>Iff.rfl⟩,?_,λk=>Iff.rfl⟩,?_,λk=>Iff.rfl⟩,?_,λk=>Iff.rfl⟩,?_,λk=>Iff.rfl⟩
  .refine⟨?_,ha.2.1,λk=>Iff.rfl⟩;show w'.heap[g.gc]?=_;rw[hb];unfold jC;dsimp only;rw[O1];rfl
  .show Row B 59 1 L' (g.aN++[q]).length rc' ((g.aN++[q]).map pR) _ _ _;rw[O1,kU];exact⟨hr,λk=>Iff.rfl⟩
  .show bF (mq B (fu (k+1) aG).aG 0 (g.aN++[q]) (fu (k+1) aG).aw) _ _ _;have e:(fu (k+1) aG).aG=aG:=rfl;rw[e,alf];exact gV
  .intro k hk h;rcases h with h|h
   .exact e0 k hk ((f1 k).2 (.inl h))
   .have:=hsz k (Af k (KX k hk).1);have:=pX k h;omega
  .intro k hk h;rcases h with h|h|h
   .exact d0 k hk ((e1 k).2 (.inl h))
   .exact d0 k hk ((e1 k).2 (.inr ((f1 k).2 (.inl h))))
   .have:=hsz k (Af k (KV k hk).1);have:=pX k h;omega
  .intro k hk h;rcases h with h|h|h|h
   .exact c0 k hk ((d1 k).2 (.inl h))
   .exact c0 k hk ((d1 k).2 (.inr ((e1 k).2 (.inl h))))
   .exact c0 k hk ((d1 k).2 (.inr ((e1 k).2 (.inr ((f1 k).2 (.inl h))))))
   .have:=hsz k (Af k (kc k hk).1);have:=pX k h;omega
  .intro k hk h;rcases h with h|h|h|h|h
   .exact vp k hk (kc k h)
   .exact vp k hk (KV k h)
   .exact vp k hk (KX k h)
   .exact vp k hk (KY k h)
   .exact xb k hk h
  .intro k hk h;have hk:k=g.gc:=hk;have ko:OW k:=(ha.2.2 _).2 hk;have alg:X k:=(a1 k).2 (.inl ko);have gb:∀k',uO k'->k=k'->False:=λk' h1 e=>a0 k ko (by rw[e];exact(b1 k').2 (.inr h1))
   rcases h with h|h|h|h|h|h
   .obtain⟨cs,z,q1⟩:=iL hr h;rw[hk] at q1;exact absurd (cS q1 hb) (by decide)
   .exact gb k (kc k h).1 rfl
   .exact gb k (KV k h).1 rfl
   .exact gb k (KX k h).1 rfl
   .exact gb k (KY k h).1 rfl
   .have:=hsz k alg;have:=pX k h;omega
 .intro k hk;rcases hk with h|h|h|h|h|h|h
  .left;rw[h];exact(a1 _).2 (.inl Ae)
  .rcases hL k h with h|h
   .left;exact(a1 k).2 (.inr ((b1 k).2 (.inl (Va k h))))
   .exact .inr h
  .exact .inl (Af k (kc k h).1)
  .exact .inl (Af k (KV k h).1)
  .exact .inl (Af k (KX k h).1)
  .exact .inl (Af k (KY k h).1)
  .exact .inr (pX k h)
def Vb(gc gt:Nat):dI:=⟨gc,gt,none,0,[],[],none,0,[],none,0,[]⟩
theorem alh{B gc gt aG:Nat}{w:World}(h:w.heap[gc]?=some (.cells #[.slice none 0 0,.int .u64 aG,.pointer (some ⟨gt,0,none⟩),.int .u64 0,.slice none 0 0,.slice none 0 0] 58 (0,0)))(hB:B<=gc)(hn:qz B gt [] (λ_=>False) (λk=>k=gt) w)(hne:gc≠gt):
 aU B (Vb gc gt) (fu 0 aG) (λ_=>False) (λk=>k=gc\/k=gt) w:=by
 have hno:∀k,(λ_:Nat=>False) k↔bg none k:=λk=>⟨λh=>h.elim,λh=>JW k h⟩
 have dt:bF [bF (mq B aG 0 ([]:List dU) ([]:List bA))] (λ_=>False) (λ_=>False) w:=⟨λ_=>False,λ_=>False,λk h=>h,λk h=>h,λk h=>h.elim,λk=>⟨λh=>h.elim,λh=>h.elim id id⟩⟩
 have ea:∀{R:List fy},bF R (λ_=>False) (λ_=>False) w->bF (Fu B none 0 []::R) (λ_=>False) (λ_=>False) w:=λhR=>⟨λ_=>False,λ_=>False,⟨fC _ _ _ _,hno,λv hv=>by cases hv⟩,hR,λk h=>h.elim,λk=>⟨λh=>h.elim,λh=>h.elim id id⟩⟩
 refine⟨⟨rfl,rfl,rfl,rfl,λi q d hq=>by simp[Vb] at hq⟩,⟨λk=>k=gc,λk=>k=gt,⟨h,hB,λk=>Iff.rfl⟩,⟨λ_=>False,λk=>k=gt,⟨fC _ _ _ _,hno⟩,⟨λk=>k=gt,λ_=>False,hn,ea (ea dt),λk _ h=>h,λk=>(or_false _).symm▸Iff.rfl⟩,λk h=>h.elim,λk=>(false_or _).symm▸Iff.rfl⟩,λk e1 e2=>hne (e1.symm.trans e2),λk=>Iff.rfl⟩,⟨λk _ h=>h,λk h=>h.elim⟩⟩
theorem cx{B n aG:Nat}{w:World}(hn:1<=n/\n<=7)(hg:aG<=1099511627776)(hv:iX w)(hB:sy.g 15<B)(qJ:B<=w.heap.size):
 Calls prog 5 #[.int .i64 n,.int .i64 1048576,.int .u64 aG] w λe w'=>∃(g:dI)(X:aD),e= .returned (.tuple #[.pointer (some ⟨g.gc,0,none⟩),.int .i64 0])/\aU B g (fu n aG) (λ_=>False) X w'/\aoV w w'/\∀k,X k->w.heap.size<=k:=by
 have iS:¬((n:Int)<1):=by omega
 have z2:¬((7:Int)<(n:Int)):=by omega
 have z3:¬((1099511627776:Int)<(aG:Int)):=by omega
 have cd:=aoU hv;have B2:=aoU hn;have DS:=aoU (acA (B:=B) (K:=λ_=>False) w qJ);go_enter func5,ntmps5
 go_wp2_with fail;refine DS.out.mono ?_;rintro e w1⟨rfl,fj,hu1⟩;have hal:=(aoV.refl w1).alloc (.cells #[.slice none 0 0,.int .u64 aG,.pointer (some ⟨w.heap.size,0,none⟩),.int .u64 0,.slice none 0 0,.slice none 0 0] 58);have aL:=bp w1 (.cells #[.slice none 0 0,.int .u64 aG,.pointer (some ⟨w.heap.size,0,none⟩),.int .u64 0,.slice none 0 0,.slice none 0 0] 58);have aor:w.heap.size<w1.heap.size:=(bH.net.lt fj rfl).2;have H0:=alh (aG:=aG) aL (by omega) (bH.net.up fj ⟨λk _ h=>h,λk h=>h.elim⟩ hal) (by omega);have O2:=aoU H0
 have kG:=aoU (hu1.trans hal);clear fj aL H0 DS;go_wp2_with fail;generalize w1.alloc (.cells #[.slice none 0 0,.int .u64 aG,.pointer (some ⟨w.heap.size,0,none⟩),.int .u64 0,.slice none 0 0,.slice none 0 0] 58)=wa at *;obtain⟨gc,yY⟩:=bB w1.heap.size
 rw[<- yY] at O2|-;have ali:w.heap.size<=gc:=by omega
 clear yY;go_loopw[26] (λi wr=>∃(k:Nat)(g:dI)(X:aD),i= .int .i64 k/\k<=n/\g.gc=gc/\aU B g (fu k aG) (λ_=>False) X wr/\aoV w wr/\∀k,X k->w.heap.size<=k) (λi _=>n-(intOf i).toNat)
 case atStart=>exact⟨0,Vb gc w.heap.size,_,rfl,by omega,rfl,O2.out,kG.out,λk hk=>hk.elim (λe=>by rw[e];exact ali) (λe=>by rw[e];exact aZ _)⟩
 case round=>
  obtain⟨k,g,X,rfl,hk,Kp,H,vS,hX⟩:=hrel;subst Kp;by_cases hlt:k<n
  .have ak8:k<=6:=by have:=B2.out;omega
   have dJ:g.aN.length=k:=by have:=H.ok.aw;simpa[fu] using this
   have hfl:=H.flat;obtain⟨OW,j0,ha,⟨vZ,uO,iW,-,-,-⟩,-,O3⟩:=(id H.lay:bF (apa B g (fu k aG)) _ X wr)
   have hrow:wr.ownsRow B 59 1 (.slice g.P g.aN.length g.pc) g.aN.length (g.aN.map pR):=iW.1;have hBg:B<=g.gc:=ha.2.1;rw[dJ] at hrow;have c0:(jC g (fu k aG))[0]?=some (.slice g.P k g.pc):=by rw[<- dJ];rfl
   have Jx:=E2 1048576;have BX:=aoU c0;have pV:=aoU hfl.bL;have Vc:=aoU hrow;have dr:=aoU H;have AL:=aoU Jx;have alj:¬bg g.P g.gc:=λhk=>by
    obtain⟨cs,z,q1⟩:=iL hrow hk;exact absurd (cS q1 hfl.bL) (by decide)
   have alk:∀kk,bg g.P kk->kk<wr.heap.size:=λkk ⟨a,e1,e2⟩=>by
    have h9:=hrow;rw[e1] at h9;rw[<- e2];exact(jO h9 a.block rfl).2
   clear Jx c0 hfl hrow ha iW O3 H O2;go_wp2_with fail;apply V.iE (λi vs W=>V.af (λkk=>kk=g.gc\/bg g.P kk) wr W/\
    (i<=5->W.heap[g.gc]?=some (.cells (jC g (fu k aG)) 58 (0,0)))/\
    (i<=4->W.ownsRow B 59 1 (.slice g.P k g.pc) k (g.aN.map pR))/\
    (i=1->∃h:cQ,vs 6= .pointer (some ⟨h.g,0,none⟩)/\bD wr.heap.size h D0 W/\∀kk,aJ h kk->wr.heap.size<=kk)/\
    (i=2->∃h:cQ,vs 7= .agg #[.pointer (some ⟨h.g,0,none⟩),.pointer none,.pointer none,.slice none 0 0]/\bD wr.heap.size h D0 W/\∀kk,aJ h kk->wr.heap.size<=kk)/\
    (i=3->∃(h:cQ)(aE:Nat),vs 8= .pointer (some ⟨aE,0,none⟩)/\(bD wr.heap.size h D0 W/\∀kk,aJ h kk->wr.heap.size<=kk)/\W.heap[aE]?=some (.cells #[.pointer (some ⟨h.g,0,none⟩),.pointer none,.pointer none,.slice none 0 0] 66 (0,0))/\wr.heap.size<=aE)/\
    (i=4->∃(h:cQ)(aE Q:Nat),vs 9= .slice (some ⟨Q,0,none⟩) 1 1/\W.ownsRow wr.heap.size 59 1 (.slice (some ⟨Q,0,none⟩) 1 1) 1 [.pointer (some ⟨aE,0,none⟩)]/\(bD wr.heap.size h D0 W/\∀kk,aJ h kk->wr.heap.size<=kk)/\W.heap[aE]?=some (.cells #[.pointer (some ⟨h.g,0,none⟩),.pointer none,.pointer none,.slice none 0 0] 66 (0,0))/\wr.heap.size<=aE)/\
    (i=5->∃(h:cQ)(aE:Nat)(L':Option Addr)(rc':Nat),vs 10= .slice L' (k+1) rc'/\W.ownsRow B 59 1 (.slice L' (k+1) rc') (k+1) (g.aN.map pR++[.pointer (some ⟨aE,0,none⟩)])/\(∀kk,bg L' kk->bg g.P kk\/wr.heap.size<=kk)/\(bD wr.heap.size h D0 W/\∀kk,aJ h kk->wr.heap.size<=kk)/\W.heap[aE]?=some (.cells #[.pointer (some ⟨h.g,0,none⟩),.pointer none,.pointer none,.slice none 0 0] 66 (0,0))/\wr.heap.size<=aE)/\
    (i=6->∃(h:cQ)(aE:Nat)(L':Option Addr)(rc':Nat),W.heap[g.gc]?=some (.cells ((jC g (fu k aG)).setIfInBounds 0 (.slice L' (k+1) rc')) 58 (0,0))/\W.ownsRow B 59 1 (.slice L' (k+1) rc') (k+1) (g.aN.map pR++[.pointer (some ⟨aE,0,none⟩)])/\(∀kk,bg L' kk->bg g.P kk\/wr.heap.size<=kk)/\(bD wr.heap.size h D0 W/\∀kk,aJ h kk->wr.heap.size<=kk)/\W.heap[aE]?=some (.cells #[.pointer (some ⟨h.g,0,none⟩),.pointer none,.pointer none,.slice none 0 0] 66 (0,0))/\wr.heap.size<=aE))
    (by kernel_rfl) (by kernel_rfl) (λvs=>⟨V.af.co (aoV.drew (aoV.refl wr)),λ_=>aH (aoV.drew (aoV.refl wr)) pV.out,λ_=>el Vc.out (aoV.drew (aoV.refl wr)),λe=>absurd e (by decide),λe=>absurd e (by decide),λe=>absurd e (by decide),λe=>absurd e (by decide),λe=>absurd e (by decide),λe=>absurd e (by decide)⟩)
   .intro aF aoX;iterate 4 (apply V.az.ok;intros;go_simp;rfl;rfl;go_frame)
    apply V.az.early 13 5
    .intro i vs ag hi hS;have c1:ag.cell? ⟨g.gc,0,none⟩=some (.slice g.P k g.pc):=(aoW (hS.2.1 hi) 0).trans BX.out;clear hS;go_simp
     with_reducible rfl
    .rfl
    simp only[au,Nat.reduceAdd];iterate 1 (apply V.az.ok;intros;go_simp;rfl;rfl;go_frame)
    apply V.az.cG;rfl
    .intro vs ag hS cY ah;obtain⟨k1,aY,cJ,-⟩:=hS;have aY:=aY (by decide);have cJ:=cJ (by decide);go_simp;refine(AL.out ag).mono ?_;rintro e ai⟨h,rfl,hD,cI,hf⟩;exact ah.out _ _ ⟨ci k1 (V.af.co cI),λ_=>aH cI aY,λ_=>el cJ cI,λ_=>⟨h,by rw[V.eV],xx hD k1.size,λkk hk=>bQ k1.size (hf kk hk)⟩,λe=>absurd e (by decide),λe=>absurd e (by decide),λe=>absurd e (by decide),λe=>absurd e (by decide),λe=>absurd e (by decide)⟩
    simp only[au,Nat.reduceAdd];apply V.az.cG;rfl
    .intro vs ag hS cY ah;obtain⟨k1,aY,cJ,eP,-⟩:=hS;obtain⟨h,iq,hD⟩:=eP rfl;have aS:=ah.out (.agg #[.pointer (some ⟨h.g,0,none⟩),.pointer none,.pointer none,.slice none 0 0]) ag ⟨k1,λ_=>aY (by decide),λ_=>cJ (by decide),λe=>absurd e (by decide),λ_=>⟨h,by rw[V.eV],hD⟩,λe=>absurd e (by decide),λe=>absurd e (by decide),λe=>absurd e (by decide),λe=>absurd e (by decide)⟩;have aK:=aoU aS;clear aS ah aY cJ eP k1 hD
     (try dsimp only at aK|-)
     rw[iq] at aK|-;clear iq;go_simp;exact aK.out
    simp only[au,Nat.reduceAdd];apply V.az.cG;rfl
    .intro vs ag hS cY ah;obtain⟨k1,aY,cJ,-,eP,-⟩:=hS;have aY:=aY (by decide);have cJ:=cJ (by decide);obtain⟨h,iq,hD,hf⟩:=eP rfl;have hal:=(aoV.refl ag).alloc (.cells #[.pointer (some ⟨h.g,0,none⟩),.pointer none,.pointer none,.slice none 0 0] 66);have aL:=bp ag (.cells #[.pointer (some ⟨h.g,0,none⟩),.pointer none,.pointer none,.slice none 0 0] 66)
     have aS:=ah.out (.pointer (some ⟨ag.heap.size,0,none⟩)) _ ⟨ci k1 (V.af.co hal),λ_=>aH hal aY,λ_=>el cJ hal,λe=>absurd e (by decide),λe=>absurd e (by decide),λ_=>⟨h,ag.heap.size,by rw[V.eV],⟨hD.up hal,hf⟩,aL,k1.size⟩,λe=>absurd e (by decide),λe=>absurd e (by decide),λe=>absurd e (by decide)⟩;have aK:=aoU aS;clear aS ah aY cJ eP k1 hD aL
     (try dsimp only at aK|-)
     rw[iq] at aK|-;clear iq;go_simp;exact aK.out
    simp only[au,Nat.reduceAdd];apply V.az.cG;rfl
    .intro vs ag hS cY ah;obtain⟨k1,aY,cJ,-,-,eP,-⟩:=hS;have aY:=aY (by decide);have cJ:=cJ (by decide);obtain⟨h,aE,iq,⟨hD,hf⟩,hp,qM⟩:=eP rfl;have hal:=(aoV.refl ag).alloc (.cells #[.pointer (some ⟨aE,0,none⟩)] 59);have jW:=wt ag #[.pointer (some ⟨aE,0,none⟩)] 59 (base:=wr.heap.size) (sz:=1) (n:=1) k1.size rfl (by omega)
     have aS:=ah.out (.slice (some ⟨ag.heap.size,0,none⟩) 1 1) _ ⟨ci k1 (V.af.co hal),λ_=>aH hal aY,λ_=>el cJ hal,λe=>absurd e (by decide),λe=>absurd e (by decide),λe=>absurd e (by decide),λ_=>⟨h,aE,ag.heap.size,by rw[V.eV],jW,⟨hD.up hal,hf⟩,aH hal hp,qM⟩,λe=>absurd e (by decide),λe=>absurd e (by decide)⟩;have aK:=aoU aS;clear aS ah aY cJ eP k1 hD hp
     (try dsimp only at aK|-)
     rw[iq] at aK|-;clear iq;go_simp;exact aK.out
    simp only[au,Nat.reduceAdd];apply V.az.cG;rfl
    .intro vs ag hS cY ah;obtain⟨k1,aY,cJ,-,-,-,eP,-⟩:=hS;have aY:=aY (by decide);have cJ:=cJ (by decide);obtain⟨h,aE,Q,iq,hQ,⟨hD,hf⟩,hp,qM⟩:=eP rfl;have hsz:=k1.size;have eG:=aB pV.out
     (try dsimp only at ah|-)
     rw[iq] at ah|-;refine uP _ _ _ ala rfl rfl rfl cJ (Rd.own hQ) (λu hu=>by rw[fi] at hu;rw[hu];rfl) (by omega) (by omega) (by omega) λv' ai ho' hg' m8=>?_
     obtain⟨L',rc',rfl⟩:=eL ho';have hKr:=qZ cJ hg';have hat:=uY m8;have hnk:∀kk,wr.heap.size<=kk->¬bg g.P kk:=λkk h1 h2=>by have:=alk kk h2;omega
     exact ah.out _ _ ⟨ci k1 (eQ hKr (λkk hk=> .inr hk)),λ_=>cL hKr aY alj,λe=>absurd e (by decide),λe=>absurd e (by decide),λe=>absurd e (by decide),λe=>absurd e (by decide),λe=>absurd e (by decide),λ_=>⟨h,aE,L',rc',by rw[V.eV],ho',λkk hk=>(hat kk hk).imp id (λh=>by omega),⟨hD.kt hKr (λkk hk=>hnk kk (hf kk hk)),hf⟩,cL hKr hp (hnk aE qM),qM⟩,λe=>absurd e (by decide)⟩
    simp only[au,Nat.reduceAdd];iterate 2 (apply V.az.ok;intros;go_simp;rfl;rfl;go_frame)
    apply V.az.call undef;rfl
    .intro vs ag hS cY ah;obtain⟨k1,aY,-,-,-,-,-,eP,-⟩:=hS;have aY:=aY (by decide);obtain⟨h,aE,L',rc',iq,hr,hat,⟨hD,hf⟩,hp,qM⟩:=eP rfl;have c1:ag.cell? ⟨g.gc,0,none⟩=some (.slice g.P k g.pc):=(aoW aY 0).trans BX.out;have s1:=ay aY 0;have bC:=bM ag g.gc 0 (.slice L' (k+1) rc') _ _ aY;have kQ:V.af (λx=>x=g.gc) ag (ag.setCell ⟨g.gc,0,none⟩ (.slice L' (k+1) rc')):=aoZ _ _ g.gc 0 _ (V.af.refl _ _);have eG:=aB pV.out;have rC:∀kk,wr.heap.size<=kk->¬kk=g.gc:=λkk h1 h2=>by omega
     have alm:∀kk,bg L' kk->¬kk=g.gc:=λkk hk e=>by
      obtain⟨cs,z,q1⟩:=iL hr hk;rw[e] at q1;exact absurd (cS q1 aY) (by decide)
     have aS:=ah.out _ ⟨ci k1 (eQ kQ (λkk hk=> .inl hk)),λe=>absurd e (by decide),λe=>absurd e (by decide),λe=>absurd e (by decide),λe=>absurd e (by decide),λe=>absurd e (by decide),λe=>absurd e (by decide),λe=>absurd e (by decide),λ_=>⟨h,aE,L',rc',bC,iC hr kQ alm,hat,⟨hD.kt kQ (λkk hk=>rC kk (hf kk hk)),hf⟩,cL kQ hp (rC aE qM),qM⟩⟩;have aK:=aoU aS;clear ah aS bC hr hat hD hp k1 aY eP
     (try dsimp only at aK|-)
     rw[iq] at aK|-;clear iq;go_simp;exact aK.out
    simp only[au,Nat.reduceAdd];apply V.az.fin;intro vs ag hS;obtain⟨k1,-,-,-,-,-,-,-,eP⟩:=hS;obtain⟨h,aE,L',rc',cn,hr,hat,⟨hD,hf⟩,hp,qM⟩:=eP rfl;refine aoX.out _ _ ?_;clear aoX eP
    (try dsimp only)
    have hsz:=k1.size;have X7:B<=wr.heap.size:=by have:=aB pV.out;omega
    have eG:=aB pV.out;have hDB:=xx hD X7;have qw:iX ag:=by
     refine(cd.out.up vS).keeps k1 (λhk=>?_);rcases hk with hk|⟨a,e1,e2⟩
     .omega
     .have h9:=Vc.out;rw[e1] at h9;have:=(jO h9 a.block rfl).1;omega
    have hvl:(g.aN.map pR++[.pointer (some ⟨aE,0,none⟩)]:List Value).length=k+1:=by rw[dG,iZ,dJ];rfl
    have KZ:=aoU (kf (B:=B) (i:=k) (aG:=aG) (gc:=g.gc) (aE:=aE) (d:=nd0) (K:=λ_=>False) (w:=ag) (n:=k+1) (P:=L') (pc:=rc') (λW hW=>ahv (hDB.up hW) (qw.up hW) hB (bQ X7 (bQ hsz hW.size))) (λkk h=>h.elim) cn (by rfl) (by rfl) (Rd.own hr) (by rw[hvl];omega) (by rw[List.getElem_append_right (by rw[iZ,dJ];omega)];simp[dJ]) hp
     (λh9=>by have:=hf _ h9;omega) (hDB.nf hp (by decide) (by decide) (by decide) (by decide) (by decide)) (by omega) hg ⟨by decide,by decide⟩ (by omega) (by omega) (λkk h=>h.elim))
    have hnext:∀(w1:World)(q:dU)(aA:aD),bF (ez B k aG q (Cc nd0)) (λ_=>False) aA w1->q.aE=aE->q.du= []->V.af (λkk=>aJ h kk\/kk=aE) ag w1->(∀kk,aA kk->(aJ h kk\/kk=aE)\/ag.heap.size<=kk)->
     ∃(g':dI)(X':aD),g'.gc=g.gc/\aU B g' (fu (k+1) aG) (λ_=>False) X' w1/\aoV w w1/\∀kk,X' kk->w.heap.size<=kk:=λw1 q aA hs e1 e2 iU jG=>by
     have pX:∀kk,aA kk->wr.heap.size<=kk:=λkk h9=>by
      rcases jG kk h9 with (h8|h8)|h8
      .exact hf kk h8
      .omega
      .omega
     have ah:V.af (λkk=>kk=g.gc\/bg g.P kk) wr w1:=⟨iU.os.trans k1.os,iU.tape.trans k1.tape,iU.output.trans k1.output,bQ k1.size iU.size,λkk h1 h2=>(iU.block kk (by omega) (λh9=>h9.elim (λh8=>by have:=hf kk h8;omega) (λh8=>by omega))).trans (k1.block kk h1 h2)⟩
     have xW:¬(aJ h g.gc\/g.gc=aE):=λh9=>h9.elim (λh8=>by have:=hf _ h8;omega) (λh8=>by omega)
     have Gz:∀kk,bg L' kk->¬(aJ h kk\/kk=aE):=λkk h9 h8=>by
      obtain⟨cs,z,q1⟩:=iL hr h9;rcases h8 with h8|h8
      .exact hDB.nf q1 (by decide) (by decide) (by decide) (by decide) (by decide) h8
      .rw[h8] at q1;exact absurd (cS q1 hp) (by decide)
     have aln:=cL iU cn xW;have kz:=iC hr iU Gz;have xb:∀kk,bg L' kk->¬aA kk:=λkk h9 h8=>by
      rcases jG kk h8 with h7|h7
      .exact Gz kk h9 h7
      .obtain⟨a,bG,bT⟩:=h9;have h6:=hr;rw[bG] at h6;have:=(jO h6 a.block rfl).2;omega
     have hpv:pR q= .pointer (some ⟨aE,0,none⟩):=by unfold pR;rw[e1]
     obtain⟨X',H',Vd⟩:=aU.more dr.out rfl (by rw[dJ];exact aln) (by rw[dJ,hpv];exact kz) hat hs pX xb e2 ah (λkk h9=>((bH.sf mo).lt hs h9).2);refine⟨{ g with P:=L',pc:=rc',aN:=g.aN++[q] },X',rfl,H',?_,λkk h9=>(Vd kk h9).elim (hX kk) (λh8=>bQ vS.size h8)⟩;have su:∀kk,(kk=g.gc\/bg g.P kk)->w.heap.size<=kk:=λkk h9=>hX kk (by
      obtain⟨OW,j0,ha,⟨vZ,uO,iW,-,-,aL⟩,-,O3⟩:=dr.out.lay;rcases h9 with h9|h9
      .exact(O3 kk).2 (.inl ((ha.2.2 kk).2 h9))
      .exact(O3 kk).2 (.inr ((aL kk).2 (.inl ((iW.2 kk).2 h9)))))
     exact⟨ah.os.trans vS.os,ah.tape.trans vS.tape,ah.output.trans vS.output,bQ vS.size ah.size,λkk h1=>(ah.block kk (cg h1 vS.size) (λh9=>by have:=su kk h9;omega)).trans (vS.block kk h1)⟩
    have FJ:=aoU hnext;clear hnext cn hr hat hD hp hDB qw AL Vc pV BX;go_wp2_with fail;refine KZ.out.mono ?_;rintro e je⟨rfl,q,aA,hs,e1,e2,-,iU,jG⟩;obtain⟨g',X',hg',H',qL,Vd⟩:=FJ.out je q aA hs e1 e2 iU jG;have alo:=aoU H';clear hs iU jG FJ KZ H';go_wp2_with fail;exact⟨⟨k+1,g',X',by go_num,by omega,hg',alo.out,qL,Vd⟩,by simp[intOf];omega⟩
   .kernel_rfl
  .obtain rfl:k=n:=by omega
   have dr:=aoU H;clear H O2;go_wp2_with fail;refine dm (v:= .tuple #[.pointer (some ⟨g.gc,0,none⟩),.int .i64 0]) (by simp[results,results5,go_sem]) rfl ?_;exact⟨g,X,rfl,dr.out,vS,hX⟩
theorem F5{q:List aC}(h:q.length<=10):(oT q).length<=330:=by
 have h2:=pH (n:=q.length) (by omega);have h3:∀q:List aC,(q.flatMap wJ).length<=32*q.length:=λq=>by
  induction q with
  |nil=>simp
  |cons i q ih=>have:=Wy i;simp only[List.flatMap_cons,dG,iu];omega
 have h4:=h3 q;unfold oT;rw[dG];omega
theorem F7(P:qK)(hp:0<P.n/\P.n<=7/\P.g<P.n)(ht:P.t<=1099511627776)(aI:Nat)(hs:aI<=255)(bu:Int)(hv: -9223372036854775808<=bu/\bu<=9223372036854775807):
 DK P (mR (fB P aI bu) 8) aI/\lh [mR (fB P aI bu) 8]=0/\(mR (fB P aI bu) 8).x.toInt=bu/\(mR (fB P aI bu) 8).v.toNat=8:=by
 have e:mR (fB P aI bu) 8=⟨Int64.ofInt aI,2,UInt64.ofNat P.t,UInt64.ofNat 8,Int64.ofInt bu⟩:=rfl;rw[e];have h1:(Int64.ofInt (aI:Int)).toInt=aI:=i64_in _ (by omega);have h2:(UInt64.ofNat P.t).toNat=P.t:=u64_in _ (by omega);have h3:(UInt64.ofNat 8).toNat=8:=by decide
 have h4:(Int64.ofInt bu).toInt=bu:=i64_in _ hv;have h5:(2:Int64).toInt=2:=by decide
 have hok:okB ⟨Int64.ofInt aI,2,UInt64.ofNat P.t,UInt64.ofNat 8,Int64.ofInt bu⟩=true:=by
  unfold okB LO;rw[h1,h2,h3,h4,h5];simp only[decide_eq_true_eq];refine⟨by omega,by omega,by omega,by omega,.inr ⟨trivial,ht⟩⟩
 have mg:lh [⟨Int64.ofInt aI,2,UInt64.ofNat P.t,UInt64.ofNat 8,Int64.ofInt bu⟩]=0:=by
  have hl:=F5 (q:= [⟨Int64.ofInt aI,2,UInt64.ofNat P.t,UInt64.ofNat 8,Int64.ofInt bu⟩]) (by simp);have hb:mP [⟨Int64.ofInt aI,2,UInt64.ofNat P.t,UInt64.ofNat 8,Int64.ofInt bu⟩]=0:=by
   unfold mP;rw[if_neg (by simp),if_pos (by show(okB _&&true)=true;rw[hok];rfl)]
  unfold lh;rw[if_neg (by simp),if_neg (by rw[hb];simp),if_neg (by omega)]
 refine⟨⟨hp,⟨hok,rfl⟩,rfl,h3,hs,?_⟩,mg,h4,h3⟩;obtain⟨h1,-⟩:=Xg mg;have hl:=F5 (q:= [⟨Int64.ofInt aI,2,UInt64.ofNat P.t,UInt64.ofNat 8,Int64.ofInt bu⟩]) (by simp);rw[h1,AJ];omega
theorem Xa:(kF ⟨0,0,0,16⟩).length<=900:=bQ (HV 0 0 0 0 16 (by decide)) (by decide)
theorem Xc{w:World}(h:iX w):sy.g 15<w.heap.size:=by
 obtain⟨te,Dy,hc⟩:=h;exact Lib.lt_of_cell hc
theorem alI(w:World)(hv:iX w):Calls prog 10 #[] w λe w'=>e= .returned (.bool true)/\aoV w w':=by
 obtain⟨hx,mg,Ej,-⟩:=F7 qO (by decide) (by decide) 1 (by decide) 3 (by decide);obtain⟨x,rf⟩:=bB (mR (fB qO 1 3) 8)
 rw[<- rf] at hx mg Ej;obtain⟨d1,d2,c3,gF,a1,a2,a3,a4,a5,a6,a7⟩:=alH (bu:=3) hx rf.symm mg FP Xa (by decide);have mJ:=aoU (cx (B:=w.heap.size) (n:=3) (aG:=5) (w:=w) (by decide) (by decide) hv (Xc hv) (aZ _))
 have hc1:∀(g:dI)(X:aD)(w1:World),aU w.heap.size g (fu 3 5) (λ_=>False) X w1->Calls prog 11 #[.pointer (some ⟨g.gc,0,none⟩),.int .i64 0,.agg #[.int .i64 1,.int .i64 1,.int .u64 2,.int .i64 3]] w1 λe w'=>e= .returned (.tuple #[.int .u64 1,.int .i64 0])/\Kq w.heap.size 0 g (fu 3 5) (fB qO 1 3) (λ_=>False) X w1 w':=λg X w1 H=>by
  have h:=Um H a1;rw[a2] at h;exact h
 have kJ:∀(g:dI)(K X:aD)(w1:World),aU w.heap.size g c3 K X w1->Calls prog 11 #[.pointer (some ⟨g.gc,0,none⟩),.int .i64 2,.agg #[.int .i64 3,.int .i64 1,.int .u64 0,.int .i64 0]] w1 λe w'=>e= .returned (.tuple #[.int .u64 2,.int .i64 0])/\Kq w.heap.size 2 g c3 (km 1) K X w1 w':=λg K X w1 H=>by
  have h:=Um H a4;rw[a5] at h;exact h
 have O9:∀(i:Nat)(c:cr)(a:ol)(d:bA),zU c i a d->(gH c i a).1.aw.length<=7/\(gH c i a).1.cZ=c.cZ:=λi c a d df=>by
  unfold gH;rw[df.nd];exact⟨by show(c.aw.set i _).length<=7;rw[List.length_set];exact df.n,rfl⟩
 have zQ:c3.cZ.length<=1000:=by
  have h1:=a6.len.2;rw[(O9 2 c3 _ d2 a4).2,a7] at h1;simp at h1;omega
 have sq:∀(g:dI)(K X:aD)(w1:World),aU w.heap.size g (gH (fu 3 5) 0 (fB qO 1 3)).1 K X w1->Calls prog 12 #[.pointer (some ⟨g.gc,0,none⟩),.int .i64 100] w1 λe w'=>e= .returned (.bool true)/\OT w.heap.size g c3 K X w1 w':=λg K X w1 H=>U0 H a3 (O9 0 _ _ d1 a1).1 zQ (by decide)
 have hm2:∀(g:dI)(K X:aD)(w1:World),aU w.heap.size g (gH c3 2 (km 1)).1 K X w1->Calls prog 12 #[.pointer (some ⟨g.gc,0,none⟩),.int .i64 100] w1 λe w'=>e= .returned (.bool true)/\OT w.heap.size g gF K X w1 w':=λg K X w1 H=>U0 H a6 (O9 2 _ _ d2 a4).1 (by rw[a7];show(2:Nat)<=1000;decide) (by decide)
 have lS:∀(g:dI)(K X:aD)(w1:World),aU w.heap.size g gF K X w1->Calls prog 13 #[.pointer (some ⟨g.gc,0,none⟩)] w1 λe w'=>∃(R:Option Addr)(rc:Nat)(gl:Nat)(fX:Nat)(c1:Nat),R=some ⟨gl,0,none⟩/\e= .returned (.slice R 2 rc)/\w'.cell? ⟨gl,15,none⟩=some (.slice (some ⟨fX,0,none⟩) 1 c1)/\w'.cell? ⟨fX,4,none⟩=some (.int .i64 3)/\aoV w1 w':=λg K X w1 H=>by
  refine(er H (by rw[a7];show(2:Nat)<=100000;decide) (λa ha=>by rw[a7] at ha;simp at ha;rcases ha with rfl|rfl <;>simp)).mono ?_;rintro e w'⟨R,rc,vs,rfl,hrow,hvs,hit,hu⟩;rw[a7] at hvs hrow|-;obtain⟨ny,u1,rfl,h1⟩:∃ny u1,vs= [ny,u1]/\u1.a=⟨2,km 1,0,0,[x]⟩:=by
   match vs,hvs with
   | [ny,u1],h=>exact⟨ny,u1,rfl,by simp at h;exact h.2⟩
  obtain⟨gl,eG,hcs⟩:=OU hrow (Nat.zero_lt_two);have aos:=hcs (1*8+7) _ (J5 (l:= [ny,u1]) (k:=1) (v:=u1) rfl 7 (by decide));obtain⟨vO,ho⟩:=hit u1 (by simp);rw[h1] at ho;obtain⟨fX,zz,alJ⟩:=OU ho (Nat.zero_lt_one);refine⟨R,rc,gl,fX,u1.c,eG,rfl,?_,?_,hu⟩
  .have h:=hcs (1*8+7) (.slice u1.A u1.a.l.length u1.c) ((J5 (l:= [ny,u1]) (k:=1) (v:=u1) rfl 7 (by decide)).trans rfl);rw[h1,zz] at h;exact h
  .have h:=alJ 4 (.int .i64 x.x.toInt) rfl;rw[Ej] at h;exact h
 have mN:=aoU hc1;have eJ:=aoU kJ;have alK:=aoU sq;have alL:=aoU hm2;have Ef:=aoU lS;clear hc1 kJ sq hm2 lS O9 zQ a1 a2 a3 a4 a5 a6 a7 hx mg Ej rf hv;go_enter func10,ntmps10
 go_wp2_with fail;refine mJ.out.mono ?_;rintro e w1⟨g,X,rfl,H1,hu1,pX⟩;have Ld:=aoU (mN.out g X w1 H1);have FS:=aoU hu1;have YX:=aoU pX;clear H1 mJ hu1 pX;go_wp2_with fail;refine Ld.out.mono ?_;rintro e w2⟨rfl,g2,jY,cD,e2,H2,pu⟩;have uI:=aoU (alK.out g2 jY cD w2 H2);rw[e2] at uI;have O':=aoU pu;clear H2 Ld pu;go_wp2_with fail;refine uI.out.mono ?_;rintro e w3⟨rfl,g3,rQ,lI,bG,H3,pr⟩;have pT:=aoU (eJ.out g3 rQ lI w3 H3);have Xd:g3.gc=g.gc:=bG.trans e2;rw[Xd] at pT;have yE:=aoU (O'.out.trans pr);clear H3 uI pr;go_wp2_with fail
 refine pT.out.mono ?_;rintro e w4⟨rfl,g4,lC,ng,bT,H4,mF⟩;have vG:=aoU (alL.out g4 lC ng w4 H4);have Xe:g4.gc=g.gc:=bT.trans Xd;rw[Xe] at vG;have xi:=aoU (yE.out.trans mF);clear H4 pT mF;go_wp2_with fail;refine vG.out.mono ?_;rintro e ai⟨rfl,g5,qG,ep,dt,H5,mG⟩;have Bz:=aoU (Ef.out g5 qG ep ai H5);have alM:g5.gc=g.gc:=dt.trans Xe;rw[alM] at Bz;have xj:=aoU (xi.out.trans mG);clear H5 vG mG;go_wp2_with fail;refine Bz.out.mono ?_;rintro e cH⟨R,rc,gl,fX,c1,rfl,rfl,q1,cP,eZ⟩;have aS:aoV w cH:=(aO.below xj.out YX.out FS.out).trans eZ
 have dz:=aoU aS;clear aS eZ Bz;go_wp2_with fail;go_ret;exact⟨rfl,dz.out⟩
theorem alN{d:bA}(h:J0 d):dx (pQ d):=AC _ _ _ _ _ _ (by have:=h.am;omega) (aZ _) (by have:=h.mn;omega) (aZ _) (by have:=RH;omega)
theorem alO(d:bA):CD (pQ d) []=pQ d:=CR _ _ _ _ _
theorem alP{B i:Nat}{g:dI}{c:cr}{d:bA}{K X:aD}{w:World}(H:aU B g c K X w)(df:Ei c i d)(hl:c.aw.length<=7):
 Calls prog 6 #[.pointer (some ⟨g.gc,0,none⟩),.int .i64 i,.slice none 0 0] w λe w'=>e= .returned (.bool d.up)/\∃(xL:List dU)(K' X':aD),aU B { g with aN:=xL } (fx c i) K' X' w'/\aO K X w K' X' w':=by
 have hd:=df.nd;obtain⟨q,hq⟩:=H.get hd;have P:=H.of hq hd;have lP:=aoU (apB H hd hl);have c0:=aoW H.flat.bL 0;obtain⟨hi,⟨b,o,hP,hr⟩,dJ⟩:=P;have Gq:((i:Int)<(g.aN.length:Int)):=by omega
 simp only[jC] at c0;rw[hP] at c0;cases hu:d.up
 .have aK:=aoU (show∃(xL:List dU)(K' X':aD),aU B { g with aN:=xL } (fx c i) K' X' w/\aO K X w K' X' w from⟨g.aN,K,X,by
   have e:fx c i=c:=by unfold fx;rw[hd];dsimp only;rw[if_neg (by rw[hu];decide)]
   rw[e];exact H,aO.refl K X w⟩)
  rw[hu] at lP;clear H hd hq dJ df hu;go_enter func6,ntmps6
  go_wp2_with fail;refine lP.out.mono ?_;rintro e w1⟨rfl,rfl⟩;go_wp2_with fail;go_ret;exact⟨rfl,aK.out⟩
 .rw[hu] at lP;rw[if_pos hu] at dJ;obtain⟨aA,h1,a1,x1,put⟩:=H.BP hq hd hu;obtain⟨cD,Ba,s2,alQ,tP⟩:=bF.part mo h1 a1 (i:=1) rfl;obtain⟨aW,Gl,jd,alR,BQ⟩:=bF.part mo h1 a1 (i:=0) rfl;have iT:bD B q.sp.h (pQ d) w:=s2.1.dk;have hnf:¬aJ q.sp.h q.aE:=iT.nf dJ (by decide) (by decide) (by decide) (by decide) (by decide);have GL:∀k,aJ q.sp.h k->aA k:=λk hk=>(tP.iff k).2 (.inl ((s2.2 k).2 (.inl hk)))
  have Ae:aA q.aE:=(BQ.iff _).2 (.inl ((jd.2.2 _).2 rfl));have hBg:B<=q.aE:=jd.2.1;have SW:w.cell? ⟨q.aE,0,none⟩=some (.pointer (some ⟨q.sp.h.g,0,none⟩)):=aoW dJ 0;have kY:=aoU (aeX iT (alN df.ok) none 0 0 [] Rd.empty (aZ _) (by omega) (λx hx=>by cases hx) (λh=>absurd h (by omega)) (λh=>absurd h (by omega)) (λt ht=>by cases ht));rw[alO] at kY
  have aS:∀(h':cQ)(w1 w2:World),bD B h' (pQ d) w1->dW q.sp.h w h' w1->w2.heap[q.aE]?=some (.cells #[.pointer (some ⟨q.sp.h.g,0,none⟩),.pointer none,.pointer none,.slice none 0 0] 66 (0,0))->V.af (λk=>k=q.aE) w1 w2->
   ∃(xL:List dU)(K' X':aD),aU B { g with aN:=xL } (fx c i) K' X' w2/\aO K X w K' X' w2:=λh' w1 w2 H1 sx ao0 k2=>by
   have hp1:=cL sx.kept dJ hnf;have Xf:¬aJ h' q.aE:=H1.nf hp1 (by decide) (by decide) (by decide) (by decide) (by decide);have H2:bD B h' (pQ d) w2:=H1.kt k2 (λk hk e=>Xf (e▸hk));obtain⟨cA,e1,e2⟩:∃cA:aD,cA=(λk=>k=q.aE\/aJ h' k)/\True:=⟨_,rfl,trivial⟩
   have kk:V.af aA w w2:=ci (eQ sx.kept GL) (eQ k2 (λk hk=>by rw[hk];exact Ae));have s1:aO K aA w K cA w2:=⟨kk,λk hk=>by
    rw[e1] at hk;rcases hk with hk|hk
    .left;rw[hk];exact Ae
    .exact(sx.aJ k hk).imp (GL k) id,λ_ h=>h,λ_ h=> .inl h⟩
   obtain⟨q',qV⟩:∃q':dU,q'= { q with sp:= { q.sp with h:=h' },du:= [] } :=⟨_,rfl⟩
   have kx:fx c i= { c with aw:=c.aw.set i { d with up:=false,jobs:= [] } } :=by unfold fx;rw[hd];dsimp only;rw[if_pos hu]
   obtain⟨X',jz,hs'⟩:=(H.place hq hd).elim λzZ alS=>(show∃X',aU B { g with aN:=g.aN.set i q' } { c with aw:=c.aw.set i { d with up:=false,jobs:= [] } } K X' w2/\aO K X w K X' w2 from by
    obtain⟨h9,a9,aot,alT⟩:=alS;unfold lm at h9;rw[if_pos hu] at h9;obtain⟨aph,W2,t2,aou,pu2⟩:=bF.part mo h9 a9 (i:=1) rfl;obtain⟨Gs,W0,t0,aov,alU⟩:=bF.part mo h9 a9 (i:=0) rfl;have R8:∀k,aJ q.sp.h k->zZ k:=λk hk=>(pu2.iff k).2 (.inl ((t2.2 k).2 (.inl hk)))
    have j4:zZ q.aE:=(alU.iff _).2 (.inl ((t0.2.2 _).2 rfl));have alV:V.af zZ w w2:=ci (eQ sx.kept R8) (eQ k2 (λk hk=>by rw[hk];exact j4));have yB:aO K zZ w K cA w2:=⟨alV,λk hk=>by
     rw[e1] at hk;rcases hk with hk|hk
     .left;rw[hk];exact j4
     .exact(sx.aJ k hk).imp (R8 k) id,λ_ h=>h,λ_ h=> .inl h⟩
    refine alT q' _ K cA w2 (by rw[qV]) (by rw[qV];rfl) ?_ yB (a9.same yB);unfold lm;rw[if_neg (show¬(false=true) from by decide)];refine⟨λk=>k=q.aE,λk=>aJ h' k,?_,?_,?_,λk=>by rw[e1]⟩
    .rw[qV];refine⟨?_,hBg,λk=>Iff.rfl⟩;unfold MO;dsimp only;rw[sx.g];exact ao0
    .refine⟨λk=>aJ h' k,λ_=>False,?_,λk h=>h,λk _ h=>h,λk=>by simp⟩;rw[qV];exact⟨H2,λk=>Iff.rfl⟩
    .intro k hk hk2;have hk:k=q.aE:=hk;exact Xf (hk▸hk2))
   rw[kx];exact⟨_,K,X',jz,hs'⟩
  have aK:=aoU aS;have oh:=aoU dJ;have alW:=aoU hnf;clear H hd hq df hu put tP BQ s2 alQ jd alR h1 a1 x1 iT GL Ae hBg aS dJ hnf;go_enter func6,ntmps6
  go_wp2_with fail;refine lP.out.mono ?_;rintro e w1⟨rfl,rfl⟩;go_wp2_with fail;refine kY.out.mono ?_;rintro e w2⟨h',rfl,H2,eC⟩;have hp2:=cL eC.kept oh.out alW.out;obtain⟨-,f1,f2,f3⟩:=qb hp2;have iS:=ay hp2 1;have z2:=ay hp2 2;have z3:=ay hp2 3;have hs1:=bM w2 q.aE 1 (.pointer none) _ _ hp2;have hs2:=bM _ q.aE 2 (.pointer none) _ _ hs1;have hs3:=bM _ q.aE 3 (.slice none 0 0) _ _ hs2
  have hk:=aoZ w2 _ q.aE 3 (.slice none 0 0) (aoZ w2 _ q.aE 2 (.pointer none) (aoZ w2 w2 q.aE 1 (.pointer none) (V.af.refl _ _)));have Km:=aoU (aK.out h' w2 _ H2 eC hs3 hk);clear hs1 hs2 hs3 hk H2 eC aK kY;go_wp2_with fail;go_ret;exact⟨rfl,Km.out⟩
theorem alX{B:Nat}{h:cQ}{d:bA}{K:aD}{w:World}(hd:d.bI= []/\d.ao=⟨0,0,0,0⟩/\d.am= []/\d.mn=fY/\d.nb=0/\d.ne=1){e:Ending}{w':World}(O:DI B h (Gg d.cs) K w e w'):DI B h d K w e w':=by
 obtain⟨bI,ao,am,mn,nb,ne,cs,up,now,bE,jobs⟩:=d;dsimp only at hd;obtain⟨rfl,rfl,rfl,rfl,rfl,rfl⟩:=hd;obtain⟨p,h1,h2,H,h4,h5⟩:=O;exact⟨p,h1,h2,⟨H.dk,H.st,H.mn,H.am,H.ao,H.im,H.bs,H.cp⟩,h4,h5⟩
theorem alY{B i:Nat}{g:dI}{c:cr}{d:bA}{K X:aD}{w:World}(H:aU B g c K X w)(df:Lb c i d)(hv:iX w)(ni:c.aG<=1099511627776):
 Calls prog 8 #[.pointer (some ⟨g.gc,0,none⟩),.int .i64 i] w λe w'=>e= .returned (.int .i64 (if d.up=true then 65 else 0))/\∃(xL:List dU)(K' X':aD),aU B { g with aN:=xL } (fZ c i) K' X' w'/\aO K X w K' X' w':=by
 have hd:=df.nd;have hl:=df.n;obtain⟨q,hq⟩:=H.get hd;have P:=H.of hq hd;have U8:i<7:=by have:=(gM hd);omega
 have aow:g.aN.length<=7:=by rw[H.ok.aw];exact hl
 have xG:=aoU (T6 H.flat i (by omega));rw[show decide (i<g.aN.length)=true by simpa using P.lt] at xG;have lP:=aoU (apB H hd hl);by_cases hu:d.up=true
 .have aK:=aoU (show∃(xL:List dU)(K' X':aD),aU B { g with aN:=xL } (fZ c i) K' X' w/\aO K X w K' X' w from⟨g.aN,K,X,by
   have e:fZ c i=c:=by unfold fZ;rw[hd];dsimp only;rw[if_pos hu]
   rw[e];exact H,aO.refl K X w⟩)
  rw[if_pos hu];rw[hu] at lP;clear H hd hq P df hu hv;go_enter func8,ntmps8
  go_wp2_with fail;refine xG.out.mono ?_;rintro e w1⟨rfl,rfl⟩;go_wp2_with fail;refine lP.out.mono ?_;rintro e w1⟨rfl,rfl⟩;go_wp2_with fail;go_ret;exact⟨rfl,aK.out⟩
 .have dJ:=P.pl;rw[if_neg hu] at dJ|-;have Ek:d.up=false:=by simpa using hu
  rw[Ek] at lP;have hnew:=df.how.resolve_left hu;obtain⟨aA,h1,a1,x1,put⟩:=H.place hq hd;unfold lm at h1;rw[if_neg hu] at h1;obtain⟨Gs,R0,hb0,⟨um,uB,jX,Bo,aox,hx1⟩,aoy,hx0⟩:=h1;have iT:bD B q.sp.h (pQ d) w:=jX.1;have GL:∀k,aJ q.sp.h k->aA k:=λk hk=>(hx0 k).2 (.inr ((hx1 k).2 (.inl ((jX.2 k).2 hk))))
  have Ae:aA q.aE:=(hx0 _).2 (.inl ((hb0.2.2 _).2 rfl));have hBg:B<=q.aE:=hb0.2.1;have eG:=aB dJ;have hBw:B<=w.heap.size:=by omega
  have e9:pQ d=pQ (Gg d.cs):=by unfold pQ;rw[hnew.2.2.1,hnew.2.2.2.1];rfl
  have FW:∀W,aoV w W->Calls prog 62 #[.pointer (some ⟨q.sp.h.g,0,none⟩)] W (DI B q.sp.h d K W):=λW hW=>
   (ahw (cs:=d.cs) (by rw[<- e9];exact iT.up hW) (hv.up hW) (bQ hBw hW.size)).mono λe w' O=>alX hnew O
  have KZ:=aoU (kf (i:=i) (gc:=g.gc) (aE:=q.aE) FW a1.lt H.flat.bL rfl rfl H.flat.ps (by rw[iZ];exact P.lt) (by rw[List.getElem_map,(List.getElem?_eq_some_iff.1 hq).2];rfl) dJ
   (iT.nf H.flat.bL (by decide) (by decide) (by decide) (by decide) (by decide)) (iT.nf dJ (by decide) (by decide) (by decide) (by decide) (by decide)) U8 ni (by rw[hnew.2.1];exact⟨by decide,by decide⟩) hBw hBg (λk hk e=>a1.ap _ Ae (e▸hk)))
  have aS:∀(w1:World)(q':dU)(X':aD),bF (ez B i c.aG q' (Cc d)) K X' w1->q'.aE=q.aE->q'.du= []->V.af (λk=>aJ q.sp.h k\/k=q.aE) w w1->(∀k,X' k->(aJ q.sp.h k\/k=q.aE)\/w.heap.size<=k)->
   ∃(xL:List dU)(K' X':aD),aU B { g with aN:=xL } (fZ c i) K' X' w1/\aO K X w K' X' w1:=λw1 q' X' hs e1 e2 hk hf=>by
   have s1:aO K aA w K X' w1:=⟨eQ hk (λk h=>h.elim (GL k) (λe=>by rw[e];exact Ae)),λk h=>(hf k h).imp (λh=>h.elim (GL k) (λe=>by rw[e];exact Ae)) id,λ_ h=>h,λ_ h=> .inl h⟩
   obtain⟨cD,h2,s2⟩:=put q' (Cc d) K X' w1 e1 (by rw[e2];rfl) (by unfold lm;rw[if_pos (show(Cc d).up=true from rfl)];exact hs) s1 (a1.same s1);have e:fZ c i= { c with aw:=c.aw.set i (Cc d) } :=by unfold fZ;rw[hd];dsimp only;rw[if_neg hu];rfl
   rw[e];exact⟨_,K,cD,h2,s2⟩
  have aK:=aoU aS;clear H hd hq P df hu hv aS put a1 iT jX hb0 FW dJ hnew;go_enter func8,ntmps8
  go_wp2_with fail;refine xG.out.mono ?_;rintro e w1⟨rfl,rfl⟩;go_wp2_with fail;refine lP.out.mono ?_;rintro e w1⟨rfl,rfl⟩;go_wp2_with fail;refine KZ.out.mono ?_;rintro e w2⟨rfl,q',X',h2,e1,e2,bG,hk,hf⟩;have dz:=aoU (aK.out w2 q' X' h2 e1 e2 hk hf);clear h2 hk hf aK KZ;go_wp2_with fail;go_ret;exact⟨rfl,dz.out⟩
end
end Go.Proofs.YtfghplfgndppfaaGreatDoor
