/-
  'clepsydra/clepsydralaw4.DiskLent': for every input the law returns true; each argument reads behind the call as it read before. No condition.
-/
import Derived.Laws.BitsAllLaws
import Derived.IntWalk
import Derived.Deep.Cut
import Derived.Deep.CutRange
import Derived.Test.YtebhhfmekmpnkaaZ3
/-
  The law DiskLent: the walk.
-/
namespace Go.Proofs.Ytebhhfmekmpnkaa.diskLent
open Go.RowKit Go.Maps
set_option linter.unusedVariables false
set_option linter.unusedSimpArgs false

/-- a file that was made and appended to, nothing that lasts -/
def dA (b : List UInt8) (c : Nat) : Dk := ⟨1048576, [⟨b, 0⟩], nm1 [97], .map [], [⟨1, 0, [97], []⟩], c, false, 0, 0⟩
theorem dA_start : createD (newD 1048576) [97] = (dA [] 1, 0) := rfl
theorem dA_find (b : List UInt8) (c : Nat) : findI (dA b c) [97] = some 0 := by
  rw [← dk1_find 0 [97] b 0 0 false 0 0]
  exact findI_same rfl [97]
theorem dA_used (b : List UInt8) (c : Nat) : usedD (dA b c) = b.length := by
  rw [← dk1_used 0 [97] b 0 0 false 0 0]
  rfl
theorem dA_append (p : List UInt8) (hp : p.length ≤ 1000) : appendD (dA [] 1) [97] p = (dA p 2, 0) := by
  have hcn : callN [[97]] (dA [] 1) = (dA [] 2, 0) := rfl
  unfold appendD
  rw [hcn, dA_find, dA_used]
  dsimp only
  have hf : fileOf (dA [] 1) 0 = ⟨[], 0⟩ := rfl
  have hq : (dA [] 1).quota = 1048576 := rfl
  rw [hf, hq]
  dsimp only
  rw [if_neg (by decide), if_neg (by simp; omega), if_neg (by simp; omega)]
  rfl
theorem dA_read (b : List UInt8) (c : Nat) : readD (dA b c) [97] = (b, 0) := by
  unfold readD
  rw [dA_find, if_neg (by decide)]
  rfl
theorem dA_ok {b : List UInt8} {c : Nat} (h : b.length ≤ 250000) : DkOk (dA b c) := by
  have h0 : MOk (DataW.map [] : Mp) 1 := ⟨Maps.tidy_empty, fun kl hk => by simp [Maps.has] at hk⟩
  exact ⟨h0.put (by omega) [97], h0, fun t ht => by
    simp only [dA, List.mem_singleton] at ht
    subst ht
    exact .inl (by simp [dA]), by simp [dA], by simp [dA], by show Maps.size (nm1 [97]) ≤ _; rw [nm1_map, Maps.size_eq]; simp, by simp [dA, Maps.size], fun f hf => by
    simp only [dA, List.mem_singleton] at hf
    subst hf
    exact ⟨h, Nat.zero_le _⟩, by simp [dA], by simp [dA], by simp [dA]⟩
theorem dk_nf {h h' : Hp} {w w' : World} (D : DkTo h w h' w') {k : Nat} (hk : k < w.heap.size) (hn : ¬ foot h k) : ¬ foot h' k := fun hf => by
  rcases D.foot k hf with h1 | h1
  · exact hn h1
  · omega
set_option maxRecDepth 100000 in
set_option maxHeartbeats 4000000 in
theorem law_any (A : Option Addr) (m c : Nat) (l : List UInt8) (at0 : Int) (w : World) (hr : IsB w A m c l) (x0 : -9223372036854775808 ≤ at0 ∧ at0 ≤ 9223372036854775807) :
    Calls Try.prog 4 #[.slice A m c, .int .i64 at0] w fun e w' => e = .returned (.bool true) ∧ Up w w' := by
  have hm : m ≤ 9223372036854775807 := by have := hr.2; omega
  have hrd := hr.1
  have hml : m = l.length := hrd.blen
  have HML := Lib.hid hml
  clear hml hr
  go_enter Try.func4, Try.ntmps4
  go_wp2_with fail
  refine (dnew_any 1048576 w).mono ?_
  rintro e w1 ⟨h1, rfl, H1, hu1, hf1⟩
  by_cases hm0 : m = 0
  · have i0 : ((m : Int) == 0) = true := by rw [beq_iff_eq]; omega
    clear hm0
    go_wp2_with fail
    refine (awake4_any _).mono ?_
    rintro e wc ⟨rfl, huc⟩
    go_wp2_with fail
    go_ret
    exact ⟨rfl, hu1.trans huc⟩
  have i0 : ((m : Int) == 0) = false := by rw [beq_eq_false_iff_ne]; omega
  by_cases hm1 : 1000 < m
  · have i1 : (1000 : Int) < (m : Int) := by omega
    go_wp2_with fail
    refine (awake4_any _).mono ?_
    rintro e wc ⟨rfl, huc⟩
    go_wp2_with fail
    go_ret
    exact ⟨rfl, hu1.trans huc⟩
  have i1 : ¬ (1000 : Int) < (m : Int) := by omega
  obtain ⟨C1, hC, hC2⟩ := i64_and_le at0 65535 (by omega)
  replace hC : bits .and .i64 at0 65535 = (C1 : Int) := hC
  obtain ⟨K, hK, hKm⟩ : ∃ K : Nat, (C1 : Int) % (m : Int) = (K : Int) ∧ K < m := ⟨C1 % m, (by rw [Int.natCast_emod]), Nat.mod_lt C1 (by omega)⟩
  have hM0 : ¬ ((m : Int) = 0) := by omega
  have hKi : (K : Int) < (m : Int) := by omega
  have hr1 := hrd.up hu1
  have hcv : (convert 31 9 (.slice A m c)).run Try.prog w1 = .ok (.string (tx l)) w1 := run_str c hr1
  have hua : Up w1 (w1.alloc (.cells #[] 5)) := (Up.refl w1).alloc _
  have hrow0 := row_new w1 #[] 5 (base := w1.heap.size) (sz := 1) (n := 0) (Nat.le_refl _) rfl (by omega)
  have hra := hr1.up hua
  have hsza : w1.heap.size ≤ (w1.alloc (.cells #[] 5)).heap.size := hua.size
  have HC := Lib.hid hC
  go_upto_region 6 with (at_builtin; refine wpList_append_rd _ bytesT (news := bvs l) hrow0 hra (bvs_one _) (by omega) (by omega) hsza rfl rfl rfl rfl ?_; intro v3 w6 ho6 hg6 hat6; obtain ⟨V, vc, rfl⟩ := own_form ho6)
  have hV : OwnB w6 w1.heap.size V m vc l := by
    unfold OwnB
    have h9 := ho6
    rw [Nat.zero_add] at h9
    exact h9
  have hu16 : Up w1 w6 := (hua).grown hg6 (fun g hg => (hrow0.lt g hg).1)
  obtain ⟨gV, rfl, hgV1, hgV2⟩ := own_some hV (by omega)
  have hnf6 : ¬ foot h1 gV := fun hf => by have := (H1.lt hf).2; omega
  have H6 := H1.up hu16
  have hu6 := hu1.trans hu16
  have hgVw : w.heap.size ≤ gV := Nat.le_trans hu1.size hgV1
  have E1 := Lib.hid dA_start
  have E2 := Lib.hid (dA_append l (by have := HML.out; omega))
  have HMS := Lib.hid (show l.length ≤ 1000 by have := HML.out; omega)
  clear ho6 hg6 hat6 hra hrow0 hua hsza hcv hr1 H1 hrd
  go_wp2_with fail
  refine (create_any H6 (newD_ok (by omega)) (by simp [newD]) (by simp [newD]) (by simp [newD]) [97] (by decide)).mono ?_
  rintro e w7 ⟨h7, rfl, H7, D7⟩
  rw [E1.out] at H7 ⊢
  (try dsimp only at H7)
  (try dsimp only)
  have hV7 : OwnB w7 w1.heap.size (some ⟨gV, 0, none⟩) m vc l := own_keepsX hV D7.kept (fun k hk hf => by
    obtain ⟨a, ha, e⟩ := hk
    injection ha with ha
    subst ha
    have e' : gV = k := e
    subst e'
    exact hnf6 hf)
  have hnf7 : ¬ foot h7 gV := dk_nf D7 hgV2 hnf6
  have hgV7 : gV < w7.heap.size := Nat.lt_of_lt_of_le hgV2 D7.kept.size
  have hu7 := D7.below H6 (Nat.le_refl _) hu6
  have hca := dappend_any H7 (dA_ok (by simp)) (by simp [dA]) [97] (by decide) (some ⟨gV, 0, none⟩) m vc l hV7.rd (by omega) (fun k hk hf => by
    obtain ⟨a, ha, e⟩ := hk
    injection ha with ha
    subst ha
    have e' : gV = k := e
    subst e'
    exact hnf7 hf)
  rw [D7.g, E2.out] at hca
  (try dsimp only at hca)
  have HCA := Lib.hid hca
  have HG7 := Lib.hid D7.g
  clear hca H6 hV D7 hnf6 hu6 hgV2
  go_wp2_with fail
  refine HCA.out.mono ?_
  rintro e w8 ⟨h8, rfl, H8, D8⟩
  have hV8 : OwnB w8 w1.heap.size (some ⟨gV, 0, none⟩) m vc l := own_keepsX hV7 D8.kept (fun k hk hf => by
    obtain ⟨a, ha, e⟩ := hk
    injection ha with ha
    subst ha
    have e' : gV = k := e
    subst e'
    exact hnf7 hf)
  have hnf8 : ¬ foot h8 gV := dk_nf D8 hgV7 hnf7
  have hu8 := D8.below H7 (Nat.le_refl _) hu7
  have hg8 : h8.g = h1.g := D8.g.trans HG7.out
  have HG8 := Lib.hid hg8
  clear HCA H7 hV7 D8 hnf7 hu7 hgV7 HG7 hg8
  obtain ⟨b9, o9, e9, hb9, hc9⟩ := (OwnB.rd hV8).2 (by omega)
  injection e9 with e9
  injection e9 with e91 e92
  subst e91; subst e92
  have hKl : K < l.length := by have := HML.out; omega
  have hcK := hc9 K (bv (l.getD K 0)) (by simp [bvs, hKl, List.getD])
  rw [Nat.zero_add] at hcK
  have hcK2 : w8.cell? ⟨gV, K, none⟩ = some (.int .u8 ((l.getD K 0).toNat : Int)) := hcK
  have hzK : w8.frozen? ⟨gV, K, none⟩ = false := World.ownsRow.frozenAt hV8 K
  have hgen : ∀ v, DiskAt w.heap.size h8 (dA l 2) (w8.setCell ⟨gV, K, none⟩ v) ∧ Up w (w8.setCell ⟨gV, K, none⟩ v) := fun v => by
    have hK8 : Rg.Keeps (fun k => k = gV) w8 (w8.setCell ⟨gV, K, none⟩ v) := setc_keeps _ _ _ _ _ (Rg.Keeps.refl _ _)
    exact ⟨H8.keepsX hK8 (fun k hk e => hnf8 (e ▸ hk)), hK8.os.trans hu8.os, hK8.tape.trans hu8.tape, hK8.output.trans hu8.output, Nat.le_trans hu8.size hK8.size, fun k hk => (hK8.block k (Nat.lt_of_lt_of_le hk hu8.size) (by omega)).trans (hu8.block k hk)⟩
  have HGEN := Lib.hid hgen
  have hCC := HC.out
  clear hgen hc9 hcK
  go_upto_region 10 with fail
  clear hcK2 hzK hCC
  obtain ⟨w9, hw9, H9, hu9⟩ : ∃ w9, w9 = w8.setCell ⟨gV, K, none⟩ _ ∧ DiskAt w.heap.size h8 (dA l 2) w9 ∧ Up w w9 := ⟨_, rfl, HGEN.out _⟩
  rw [← hw9]
  clear hw9 HGEN H8 hu8 hV8 hnf8
  have hokA : DkOk (dA l 2) := dA_ok (by have := HMS.out; omega)
  have E3 := Lib.hid (dA_read l 2)
  have hcd := dread_any H9 hokA [97] (by decide)
  rw [HG8.out, E3.out] at hcd
  (try dsimp only at hcd)
  have HCD := Lib.hid hcd
  clear hcd
  go_wp2_with fail
  refine HCD.out.mono ?_
  rintro e wa ⟨R, rn, rc, rfl, howna, hua⟩
  have hrn : rn = m := by rw [HML.out]; exact (OwnB.rd howna).blen
  subst hrn
  have Ha := H9.up hua
  have hupa := hu9.trans hua
  have hcv : (convert 31 9 (.slice R rn rc)).run Try.prog wa = .ok (.string (tx l)) wa := run_str rc (OwnB.rd howna)
  have hsame : ((tx l).toList == (tx l).toList) = true := tx_beq rfl
  obtain ⟨gR, rfl, hgR1, hgR2⟩ := own_some howna (by omega)
  have hnfR : ¬ foot h8 gR := fun hf => by have := (H9.lt hf).2; omega
  have hgRw : w.heap.size ≤ gR := Nat.le_trans hu9.size hgR1
  obtain ⟨b9, o9, e9, hb9, hc9⟩ := (OwnB.rd howna).2 (by omega)
  injection e9 with e9
  injection e9 with e91 e92
  subst e91; subst e92
  have hcK := hc9 K (bv (l.getD K 0)) (by simp [bvs, hKl, List.getD])
  rw [Nat.zero_add] at hcK
  have hcK2 : wa.cell? ⟨gR, K, none⟩ = some (.int .u8 ((l.getD K 0).toNat : Int)) := hcK
  have hzK : wa.frozen? ⟨gR, K, none⟩ = false := World.ownsRow.frozenAt howna K
  have hgen : ∀ v, DiskAt w.heap.size h8 (dA l 2) (wa.setCell ⟨gR, K, none⟩ v) ∧ Up w (wa.setCell ⟨gR, K, none⟩ v) := fun v => by
    have hK8 : Rg.Keeps (fun k => k = gR) wa (wa.setCell ⟨gR, K, none⟩ v) := setc_keeps _ _ _ _ _ (Rg.Keeps.refl _ _)
    exact ⟨Ha.keepsX hK8 (fun k hk e => hnfR (e ▸ hk)), hK8.os.trans hupa.os, hK8.tape.trans hupa.tape, hK8.output.trans hupa.output, Nat.le_trans hupa.size hK8.size, fun k hk => (hK8.block k (Nat.lt_of_lt_of_le hk hupa.size) (by omega)).trans (hupa.block k hk)⟩
  have HGEN := Lib.hid hgen
  have hCC := HC.out
  clear hgen hc9 hcK HCD H9 hu9 hua
  go_upto_region 14 with fail
  clear hcK2 hzK hCC hcv hsame
  obtain ⟨w9, hw9, H9, hu9⟩ : ∃ w9, w9 = wa.setCell ⟨gR, K, none⟩ _ ∧ DiskAt w.heap.size h8 (dA l 2) w9 ∧ Up w w9 := ⟨_, rfl, HGEN.out _⟩
  rw [← hw9]
  clear hw9 HGEN Ha hupa howna hnfR
  have hcd := dread_any H9 hokA [97] (by decide)
  rw [HG8.out, E3.out] at hcd
  (try dsimp only at hcd)
  have HCD := Lib.hid hcd
  clear hcd
  go_wp2_with fail
  refine HCD.out.mono ?_
  rintro e wb ⟨R, rn2, rc2, rfl, hownb, hub⟩
  have Hb := H9.up hub
  have hupb := hu9.trans hub
  have hcv : (convert 31 9 (.slice R rn2 rc2)).run Try.prog wb = .ok (.string (tx l)) wb := run_str rc2 (OwnB.rd hownb)
  have hsame : ((tx l).toList == (tx l).toList) = true := tx_beq rfl
  have hce := usedO_any Hb hokA
  have hud : usedO (dA l 2) = l.length := by
    unfold usedO
    rw [dA_used]
    rfl
  rw [HG8.out, hud] at hce
  have HCE := Lib.hid hce
  clear hce hud hownb
  go_wp2_with fail
  clear hcv hsame
  refine HCE.out.mono ?_
  rintro e wc ⟨rfl, huc⟩
  have hts : (tx l).size = l.length := tx_size l
  have hbe : ((l.length : Int) == ((tx l).size : Int)) = true := by rw [hts, beq_iff_eq]
  go_wp2_with fail
  refine (awake4_any _).mono ?_
  rintro e we ⟨rfl, hue⟩
  go_wp2_with fail
  go_ret
  exact ⟨rfl, (hupb.trans huc).trans hue⟩
end Go.Proofs.Ytebhhfmekmpnkaa.diskLent

/-
  'clepsydra/clepsydralaw4.DiskLent': for every input the law returns true; each argument reads behind the call as it read before. No condition.
-/

namespace Go.Proofs.Ytebhhfmekmpnkaa.diskLent
open Go.ChangeShapes Go.WideShapes Go.ChangeAt Go.RowKit
open Go.ChangeMaps (open_string shut_string)
set_option linter.unusedVariables false

set_option maxRecDepth 100000 in
theorem lifted (os : Os) (started : os.Started) (H : Type) (enc : TypeId × Value → H) :
    ReturnsInHanded {} Try.checked os 4 .any (Rows.diskLentSpec.pre6 enc Try.prog Try.f4 Rows.diskLentRow.domain false) (Rows.diskLentSpec.post enc Try.prog Try.f4 false true false false) := by
  refine returnsInHanded_of_change (C := Try.checked) prog_own started (by kernel_rfl) Try.func4
    (ChangeSpec.witness6 (enc := enc) (C := Try.checked) false ⟨#[], #[.slice none 0 0, .int .i64 0], []⟩ 8 (by kernel_rfl) (by kernel_rfl) (by kernel_rfl) (by kernel_rfl)) ?_
  intro W base args ds gs before hval0 hW hcnd _
  have hval : ∀ (j : Nat) t v, Try.f4.params[j]? = some t → args[j]? = some v → Value.okWide Try.prog W .any base t v := hval0
  have hW' := hW
  obtain ⟨p, q, hA0, hV, rfl, hfz, hnd⟩ := hW
  have hA : DataW.TrodAll enc Try.prog W 0 (fun _ => true) true Try.f4.params.toList args.toList ds p := hA0
  rw [Try.params4] at hA hval
  obtain ⟨v0, vs0, d0, ds0, p0, q0, hargs, rfl, rfl, h0, r0⟩ := trodAll_cons hA
  obtain ⟨v1, vs1, d1, ds1, p1, q1, rfl, rfl, rfl, h1, r1⟩ := trodAll_cons r0
  obtain ⟨rfl, rfl, rfl⟩ := trodAll_nil r1
  obtain rfl : args = #[v0, v1] := by cases args; simp_all
  obtain ⟨rfl, rfl⟩ := trodVars_none hV
  obtain ⟨a0, len0, cap0, rfl⟩ := okWide_slice Try.underlying31 (hval 0 31 v0 rfl rfl)
  have k0 := h0
  have lt0 : ∀ x ∈ p0, x.block < W.heap.size := by obtain ⟨m, hm⟩ := k0; exact DataW.trod_lt m _ _ _ hm
  obtain ⟨l0, w0⟩ := is_b h0
  obtain ⟨a1, rfl, rfl, rfl, w1⟩ := open_int Try.underlying3 (hval 1 3 v1 rfl rfl) h1
  have b1 := bd_i64 w1
  clear hA0 hval0
  refine (law_any a0 len0 cap0 l0 a1 W w0 b1).mono fun e W' ⟨he, bel⟩ => ?_
  subst he
  exact ⟨_, rfl, _, _, _, [], _, [], hW', trodAll_mk1 (shut_bool Try.underlying4 _), (trodAll_cons_mk (Below.trod laidOut (by kernel_rfl) (of_decide_eq_true (by kernel_rfl)) k0 bel lt0) (trodAll_cons_mk (shut_int Try.underlying3 w1) trodAll_mk0)), rfl, bel.frame _, fun h => by cases h⟩

theorem proved : Rows.DiskLentSaid :=
  OpenClaim.holds_of_wide 4 Try.f4 rfl rfl rfl rfl rfl rfl rfl ⟨rfl, rfl, rfl, rfl, rfl⟩ rfl rfl rfl rfl rfl (by kernel_rfl) Try.func4 (by kernel_rfl)
    (of_decide_eq_true (by kernel_rfl)) (by unfold Func.isWrapper; first | (rw [if_pos (by decide +kernel)]; kernel_rfl) | (rw [if_neg (by decide +kernel)]; exact ⟨rfl, rfl⟩))
    (fun os started H enc _ => lifted os started H enc)
#print axioms proved
end Go.Proofs.Ytebhhfmekmpnkaa.diskLent
