/- Texts of this claim, joined: ShW1. -/
import Derived.Shelf.Strconv.AtoiErr
import Derived.Shelf.Strconv.Atoi
import Derived.Shelf.Strconv.Itoa3
import Derived.Shelf.Small.Wraps
import Derived.Test.YtfghplfgndppfaaGreatDoorZ2
import Derived.Test.YtfghplfgndppfaaGreatDoorZ14
set_option linter.unusedVariables false
set_option linter.unusedSimpArgs false
set_option maxRecDepth 100000
set_option maxHeartbeats 8000000
namespace Go.Proofs.YtfghplfgndppfaaGreatDoor
open Go.Proofs.Tryz
section
open Go.RowKit
def yr:List UInt8:= [108,111,103]
def Dx:List UInt8:= [116,97,98]
def oD:List UInt8:= [109,97,110]
theorem aeF(w:World):Calls prog 160 #[.int .i64 1] w λe w'=>e= .returned (.string (tx [49]))/\w'=w:=by
 have h:=Any.strconv_Itoa_small aeB 1 (by decide) w;have e:(⟨(Lib.decDigits 1).toArray⟩:ByteArray)=tx [49]:=by rw[Lib.decDigits];rfl
 rw[e] at h;exact h
theorem X1(s p:List UInt8)(w:World):Calls prog 270 #[.string (tx s),.string (tx p)] w λe w'=>e= .returned (.tuple #[.string (tx (Lib.trimPrefix s p)),.bool (Lib.hasPrefix s p)])/\w'=w:=by
 have h:=Any.strings_CutPrefix aez (tx s) (tx p) w;rw[Aj,Aj] at h;exact h
theorem aeG(w:World):Calls prog 271 #[.string (tx [49])] w λe w'=>e= .returned (.tuple #[.int .i64 1,.nilIface])/\aoV w w':=by
 have h:=Any.strconv_Atoi aeD (tx [49]) 1 (by decide) (by rw[Aj];rfl) w;refine h.mono ?_;rintro e w'⟨rfl,t,rfl⟩;exact⟨rfl,Lib.bytesWorld_below _ _ _⟩
def iX(w:World):Prop:=∃te Dy,w.cell? ⟨(sy.g 15),0,none⟩=some (.iface te Dy)
theorem aeH(s:List UInt8)(hl:s.length<=18)(h:Lib.atoi s=none)(w:World)(hv:iX w):Calls prog 271 #[.string (tx s)] w λe w'=>(∃t p,e= .returned (.tuple #[.int .i64 0,.iface t p]))/\aoV w w':=by
 obtain⟨te,Dy,hc⟩:=hv;have h:=Any.strconv_Atoi_err aeE (tx s) (by rw[Ak];exact hl) (by rw[Aj];exact h) (.iface te Dy) w hc (.inr ⟨te,Dy,rfl⟩);refine h.mono ?_;rintro e w'⟨N,rfl,h1,h2,h3⟩;exact⟨⟨_,_,rfl⟩,h3⟩
def isKind(k:List UInt8):Prop:=k=yr\/k=Dx\/k=oD
theorem Jd(k:List UInt8)(hk:isKind k)(w:World):Calls prog 101 #[.string (tx k),.int .i64 1] w λe w'=>e= .returned (.string (tx (k++[46,49])))/\w'=w:=by
 have fS:=λW=>aeF W
 have iS:¬9223372036854775807<(tx k).size+1:=by
  rw[Ak];rcases hk with rfl|rfl|rfl <;>decide
 have z2:¬9223372036854775807<(tx k).size+1+1:=by
  rw[Ak];rcases hk with rfl|rfl|rfl <;>decide
 have z3:¬9223372036854775807<(tx k++⟨#[46]⟩).size+(tx [49]).size:=by
  rw[ByteArray.size_append,Ak,Ak];rcases hk with rfl|rfl|rfl <;>decide
 have hres:tx k++⟨#[46]⟩++tx [49]=tx (k++[46,49]):=by
  rcases hk with rfl|rfl|rfl <;>rfl
 have zJ:=aoU hres;clear hres z2;rcases hk with rfl|rfl|rfl
 .have a1:((tx yr).toList== [108,111,103])=true:=by rw[sM];rfl
  go_enter func101,ntmps101
  go_wp2_with fail;refine(fS w).mono ?_;rintro e w1⟨rfl,rfl⟩;go_wp2_with fail;go_ret;exact⟨by rw[<- zJ.out];rfl,rfl⟩
 .have a1:((tx Dx).toList== [108,111,103])=false:=by rw[sM];rfl
  have a2:((tx Dx).toList== [116,97,98])=true:=by rw[sM];rfl
  go_enter func101,ntmps101
  go_wp2_with fail;refine(fS w).mono ?_;rintro e w1⟨rfl,rfl⟩;go_wp2_with fail;go_ret;exact⟨by rw[<- zJ.out];rfl,rfl⟩
 .have a1:((tx oD).toList== [108,111,103])=false:=by rw[sM];rfl
  have a2:((tx oD).toList== [116,97,98])=false:=by rw[sM];rfl
  have a3:((tx oD).toList== [109,97,110])=true:=by rw[sM];rfl
  go_enter func101,ntmps101
  go_wp2_with fail;refine(fS w).mono ?_;rintro e w1⟨rfl,rfl⟩;go_wp2_with fail;go_ret;exact⟨by rw[<- zJ.out];rfl,rfl⟩
theorem aeI(k:List UInt8)(hk:isKind k)(w:World):Calls prog 270 #[.string (tx (k++[46,49])),.string (tx (k++[46]))] w λe w'=>e= .returned (.tuple #[.string (tx [49]),.bool true])/\w'=w:=by
 have h:=X1 (k++[46,49]) (k++[46]) w;have e1:Lib.hasPrefix (k++[46,49]) (k++[46])=true:=by rcases hk with rfl|rfl|rfl <;>decide
 have e2:Lib.trimPrefix (k++[46,49]) (k++[46])= [49]:=by rcases hk with rfl|rfl|rfl <;>decide
 rw[e1,e2] at h;exact h
theorem aeJ(s k:List UInt8)(h1:Lib.hasPrefix s (k++[46])=false)(w:World):Calls prog 270 #[.string (tx s),.string (tx (k++[46]))] w λe w'=>e= .returned (.tuple #[.string (tx s),.bool false])/\w'=w:=by
 have h:=X1 s (k++[46]) w;have e2:Lib.trimPrefix s (k++[46])=s:=by unfold Lib.trimPrefix;rw[h1];rfl
 rw[h1,e2] at h;exact h
theorem It(k:List UInt8)(hk:isKind k):tx k++⟨#[46]⟩=tx (k++[46])/\¬9223372036854775807<(tx k).size+1:=by
 refine⟨by rcases hk with rfl|rfl|rfl <;>rfl,?_⟩;rw[Ak];rcases hk with rfl|rfl|rfl <;>decide
theorem apI(k:List UInt8)(hk:isKind k)(w:World):Calls prog 218 #[.string (tx (k++[46,49])),.string (tx k)] w λe w'=>e= .returned (.tuple #[.int .i64 1,.bool true])/\aoV w w':=by
 have bh:=aoU (aeI k hk w);have iw:=aoU (aeG w);have ff:=aoU (λW=>Jd k hk W);obtain⟨Fp,iS⟩:=It k hk;have gD:=aoU (Lt (rfl:k++[46,49]=k++[46,49]));generalize k++[46,49]=nm at *;generalize k++[46]=kd at *;clear hk;go_enter func218,ntmps218
 go_wp2_with fail;refine bh.out.mono ?_;rintro e w1⟨rfl,rfl⟩;go_wp2_with fail;refine iw.out.mono ?_;rintro e w2⟨rfl,hu⟩;clear bh iw Fp iS;have hb:=gD.out;go_wp2_with fail;refine(ff.out w2).mono ?_;rintro e w3⟨rfl,rfl⟩;go_wp2_with fail;refine dm (v:= .tuple #[.int .i64 1,.bool true]) (by simp[results,results218,go_sem]) rfl ?_;exact⟨rfl,hu⟩
theorem Sc(s k:List UInt8)(hk:isKind k)(h1:Lib.hasPrefix s (k++[46])=false)(hl:s.length<=18)(h:Lib.atoi s=none)(w:World)(hv:iX w):Calls prog 218 #[.string (tx s),.string (tx k)] w λe w'=>e= .returned (.tuple #[.int .i64 0,.bool false])/\aoV w w':=by
 have bh:=aoU (aeJ s k h1 w);have iw:=aoU (aeH s hl h w hv);obtain⟨Fp,iS⟩:=It k hk;generalize k++[46]=kd at *;clear hk h h1 hl hv;go_enter func218,ntmps218
 go_wp2_with fail;refine bh.out.mono ?_;rintro e w1⟨rfl,rfl⟩;go_wp2_with fail;refine iw.out.mono ?_;rintro e w2⟨⟨t,p,rfl⟩,hu⟩;go_wp2_with fail;refine dm (v:= .tuple #[.int .i64 0,.bool false]) (by simp[results,results218,go_sem]) rfl ?_;exact⟨rfl,hu⟩
end
end Go.Proofs.YtfghplfgndppfaaGreatDoor
