/-
  'clepsydra/clepsydralaw4.DiskCopies': for every input the law returns true; each argument reads behind the call as it read before. No condition.
-/
import Derived.IntWalk
import Derived.Test.YtebhhfmekmpnkaaZ6
/-
  The law DiskCopies: the walk.
-/
namespace Go.Proofs.Ytebhhfmekmpnkaa.diskCopies
open Go.RowKit Go.Maps
set_option linter.unusedVariables false
set_option linter.unusedSimpArgs false

theorem zvs_izs (l : List Int64) : zvs l = izs (l.map Int64.toInt) := by simp [zvs, izs]
theorem i64_rg (x : Int64) : -9223372036854775808 ≤ x.toInt ∧ x.toInt ≤ 9223372036854775807 := by
  have h1 := Int64.le_toInt x
  have h2 := Int64.toInt_lt x
  omega
set_option maxRecDepth 100000 in
set_option maxHeartbeats 16000000 in
theorem law_any (A : Option Addr) (n c : Nat) (l : List OpV) (K : Option Addr) (kn kc : Nat) (kl : List Int64) (w : World) (hops : IsOps w A n c l) (hk0 : IsZ w K kn kc kl) :
    Calls Try.prog 10 #[.slice A n c, .slice K kn kc] w fun e w' => e = .returned (.bool true) ∧ Up w w' := by
  have hn63 : n ≤ 9223372036854775807 := by have := hops.2.2; omega
  obtain ⟨hkz, hkc, hkcc⟩ := hk0
  have hkn63 : kn ≤ 9223372036854775807 := by omega
  have hkr := hkz
  rw [zvs_izs] at hkr
  have hkrg : ∀ x ∈ kl.map Int64.toInt, -9223372036854775808 ≤ x ∧ x ≤ 9223372036854775807 := fun x hx => by
    obtain ⟨y, _, rfl⟩ := List.mem_map.1 hx
    exact i64_rg y
  have hkb : 0 < kn → ∀ a, K = some a → a.block < w.heap.size := fun hm a ha => by
    obtain ⟨b, o, e, hb, _⟩ := hkz.2 hm
    rw [ha] at e
    injection e with e
    rw [e]; exact hb
  obtain ⟨keep, hkeep⟩ : ∃ keep, keep = kl.map Int64.toInt := ⟨_, rfl⟩
  rw [← hkeep] at hkr hkrg
  have HKR := Lib.hid hkr
  have HKG := Lib.hid hkrg
  have HKB := Lib.hid hkb
  clear hkrg hkb hkeep hkz hkr
  go_enter Try.func10, Try.ntmps10
  go_wp2_with fail
  refine (dnew_any 50000 w).mono ?_
  rintro e w1 ⟨h1, rfl, H1, hu1, hf1⟩
  go_wp2_with fail
  refine (rnew_any 50000 w1).mono ?_
  rintro e w2 ⟨hr1, rfl, R1, hu2, hf2⟩
  have T1 : Two w.heap.size h1 (newD 50000) hr1 (newR 50000) w2 := ⟨H1.up hu2, R1.baseR hu1.size, fun k hk hf => by have h8 := (H1.lt hk).2; have h9 := hf2 k hf; omega⟩
  have hu12 := hu1.trans hu2
  have HG1 := Lib.hid (rfl : h1.g = h1.g)
  generalize hG : h1.g = G at *
  have HG2 : Hid (h1.g = G) := Lib.hid hG
  generalize hGR : hr1.g = GR at *
  have HR2 : Hid (hr1.g = GR) := Lib.hid hGR
  have HOK1 : Hid (DkOk (newD 50000)) := newD_ok (by omega)
  have HS1 : Hid (Sm 0 (newD 50000) (newR 50000)) := Sm.new _
  clear hG hGR HG1 hf1 hf2 H1 R1 hu1 hu2
  by_cases hkk : 60 < kn
  · have q1 : (60 : Int) < (kn : Int) := by omega
    go_wp2_with fail
    refine (awake4_any w2).mono ?_
    rintro e w3 ⟨rfl, hu3⟩
    go_wp2_with fail
    go_ret
    exact ⟨rfl, hu12.trans hu3⟩
  have q1 : ¬ (60 : Int) < (kn : Int) := by omega
  go_wp2_with fail
  clear q1
  go_loopw [7] (fun iv wr => ∃ (i : Nat) (h : Hp) (d : Dk) (hr : Rh) (r : Rk), iv = .int .i64 (i : Int) ∧ i ≤ n ∧ i ≤ 30 ∧ Hid (h.g = G) ∧ Hid (hr.g = GR) ∧ Two w.heap.size h d hr r wr ∧ Hid (Sm (2 * i) d r) ∧ Hid (DkOk d) ∧ Up w wr) (fun iv _ => n - (intOf iv).toNat)
  case atStart => exact ⟨0, h1, _, hr1, _, rfl, Nat.zero_le _, Nat.zero_le _, HG2, HR2, T1, HS1, HOK1, hu12⟩
  case round =>
    obtain ⟨i, h, d, hr, r, rfl, hi, hi6, HG, HR, T, HSM, HOK, hup⟩ := hrel
    clear T1 hu12 HG2 HR2 HS1 HOK1
    by_cases hlt : i < n ∧ i < 30
    · have i1 : (i : Int) < (n : Int) := by omega
      have i2 : (i : Int) < 30 := by omega
      obtain ⟨b, o, ⟨ok, on, oa, ob, oA, oln, ocp, oks⟩, rfl, hx, hio, hcl⟩ := hops.at_ hlt.1
      obtain ⟨c0, c1, c2, c3, c4⟩ := hcl wr hup
      have HIO := Lib.hid hio
      (try dsimp only at c0 c1 c2 c3 c4)
      have hsa : (tx oa).size = oa.length := tx_size oa
      have hsb : (tx ob).size = ob.length := tx_size ob
      clear hx hio hcl
      by_cases l1 : 60 < oa.length
      · have l1i : (60 : Int) < (oa.length : Int) := by omega
        go_wp2_with fail
        refine (awake4_any wr).mono ?_
        rintro e w3 ⟨rfl, hu3⟩
        go_wp2_with fail
        go_ret
        exact ⟨rfl, hup.trans hu3⟩
      have l1i : ¬ (60 : Int) < (oa.length : Int) := by omega
      by_cases l2 : 60 < ob.length
      · have l2i : (60 : Int) < (ob.length : Int) := by omega
        go_wp2_with fail
        refine (awake4_any wr).mono ?_
        rintro e w3 ⟨rfl, hu3⟩
        go_wp2_with fail
        go_ret
        exact ⟨rfl, hup.trans hu3⟩
      have l2i : ¬ (60 : Int) < (ob.length : Int) := by omega
      by_cases l3 : 60 < oln
      · have l3i : (60 : Int) < (oln : Int) := by omega
        go_wp2_with fail
        refine (awake4_any wr).mono ?_
        rintro e w3 ⟨rfl, hu3⟩
        go_wp2_with fail
        go_ret
        exact ⟨rfl, hup.trans hu3⟩
      have l3i : ¬ (60 : Int) < (oln : Int) := by omega
      have hdo := do4_any T HSM.out HOK.out (by omega) ok on oa ob oA oln ocp oks HIO.out.n1 HIO.out.la HIO.out.lb (HIO.out.rd.up hup) HIO.out.c1 (by omega) HIO.out.bd (fun hm x hx hf => by
        obtain ⟨b', o', e, hb', _⟩ := HIO.out.rd.2 hm
        have hx' : oA = some x := hx
        have e' : oA = some ⟨b', o', none⟩ := e
        rw [hx'] at e'
        injection e' with e'
        subst e'
        have := (T.lt hf).1
        have hb2 : b' < w.heap.size := hb'
        simp at this
        omega)
      rw [HG.out, HR.out] at hdo
      have HD := Lib.hid hdo
      clear hdo
      go_upto_region 9 with fail
      clear hsa hsb l1 l2 l3 l1i l2i l3i
      go_wp2_with fail
      clear c0 c1 c2 c3 c4
      refine HD.out.mono ?_
      rintro e w4 ⟨rfl, h4, d4, hr4, r4, T4, W4, S4, ok4⟩
      have hup4 := W4.below T (Nat.le_refl _) hup
      have HG4 : Hid (h4.g = G) := Lib.hid (W4.g.trans HG.out)
      have HR4 : Hid (hr4.g = GR) := Lib.hid (W4.gr.trans HR.out)
      have HS4 : Hid (Sm (2 * (i + 1)) d4 r4) := Lib.hid (S4.mono (by omega))
      have HOK4 := Lib.hid ok4
      clear S4 ok4 HD HSM HOK T hup HG HR W4
      go_wp2_with fail
      go_roundw
      case rel => exact ⟨i + 1, h4, d4, hr4, r4, by go_num, by omega, by omega, HG4, HR4, T4, HS4, HOK4, hup4⟩
      case measure => simp [intOf]; omega
    · have S := HSM.out
      have hok := HOK.out
      obtain ⟨s1, s2, s3, s4, s5⟩ := S.dsz (by omega)
      have S1 := S.crash keep
      have ok1 := crashD_ok hok keep s5
      have t1 := S1.dsz (by omega)
      have S2 := S1.create [122, 122] (by decide)
      have ok2 := createD_ok ok1 [122, 122] t1.2.1 t1.2.2.1
      have t2 := S2.2.dsz (by omega)
      have htn := S.tnb
      have hrok := S.rok hok (by omega)
      have hkf : ∀ {h9 : Hp} {d9 : Dk} {w9 : World} {B9 : Nat}, w.heap.size ≤ B9 → DiskAt B9 h9 d9 w9 → 0 < kn → ∀ a, K = some a → ¬ foot h9 a.block := fun hB9 H9 hm a ha hf => by
        have h8 := HKB.out hm a ha
        have h7 := (H9.lt hf).1
        omega
      have HKF : Hid (∀ {h9 : Hp} {d9 : Dk} {w9 : World} {B9 : Nat}, w.heap.size ≤ B9 → DiskAt B9 h9 d9 w9 → 0 < kn → ∀ a, K = some a → ¬ foot h9 a.block) := hkf
      have hcp := dcopy_any T.D hok s1
      rw [HG.out] at hcp
      have HCP := Lib.hid hcp
      have S' := Lib.hid S
      clear hkf hcp S
      by_cases hl1 : i < n
      · have i1 : (i : Int) < (n : Int) := by omega
        have i2 : ¬ (i : Int) < 30 := by omega
        go_upto_region 11 with fail
        go_wp2_with fail
        refine HCP.out.mono ?_
        rintro e w5 ⟨hc, rfl, Hc, hu5⟩
        have T5 := T.copy Hc hu5
        have hup5 := hup.trans hu5
        have ap5 : ∀ k, (foot hc k ∨ rfoot hr k) → ¬ foot h k := fun k hk hf => by
          rcases hk with hk | hk
          · have h8 := (Hc.lt hk).1
            have h9 := (T.D.lt hf).2
            omega
          · exact T.ap k hf hk
        have H5 := T.D.up hu5
        have HG5 := HG
        have hcr := crash_any H5 hok K kn kc keep (HKR.out.up hup5) hkc hkn63 HKG.out (HKF.out (Nat.le_refl _) H5) (fun hm a ha => Nat.lt_of_lt_of_le (HKB.out hm a ha) hup5.size) htn
        rw [HG.out] at hcr
        have HCR := Lib.hid hcr
        clear HCP hcr Hc hu5 T hup
        go_wp2_with fail
        refine HCR.out.mono ?_
        rintro e w6 ⟨h6, rfl, H6, D6⟩
        obtain ⟨T6, ap6⟩ := T5.past D6 ap5
        have hup6 := D6.below H5 (Nat.le_refl _) hup5
        have hg6 : h6.g = G := D6.g.trans HG.out
        have hcc := create_any H6 ok1 t1.1 t1.2.1 t1.2.2.1 [122, 122] (by decide)
        rw [hg6] at hcc
        have HCC := Lib.hid hcc
        have HG6 := Lib.hid hg6
        clear HCR hcc H5 D6 T5 ap5 hup5 hg6
        go_wp2_with fail
        refine HCC.out.mono ?_
        rintro e w7 ⟨h7, rfl, H7, D7⟩
        obtain ⟨T7, ap7⟩ := T6.past D7 ap6
        have hup7 := D7.below H6 (Nat.le_refl _) hup6
        have hg7 : h7.g = G := D7.g.trans HG6.out
        obtain ⟨hconv, hra, hua7⟩ := bytes_const w7 #[.int .u8 109, .int .u8 111, .int .u8 114, .int .u8 101] [109, 111, 114, 101] 4 rfl rfl
        have H7a := H7.up hua7
        have hca := dappend_any H7a ok2 t2.1 [122, 122] (by decide) (some ⟨w7.heap.size, 0, none⟩) 4 4 [109, 111, 114, 101] hra (by omega) (fun k hk hf => by
          obtain ⟨a, ha, e⟩ := hk
          injection ha with ha
          subst ha
          have := (H7.lt hf).2
          simp at e
          omega)
        rw [hg7] at hca
        have HCA := Lib.hid hca
        clear HCC hca hra H6 D7 T6 ap6 hup6 H7 hg7 HG6
        go_wp2_with fail
        clear hconv
        refine HCA.out.mono ?_
        rintro e w8 ⟨h8, rfl, H8, D8⟩
        obtain ⟨T8, ap8⟩ := (T7.up hua7).past D8 ap7
        have hup8 := D8.below H7a (Nat.le_refl _) (hup7.trans hua7)
        have hsame := same4_any T8 S'.out hok (by omega)
        rw [HR.out] at hsame
        have HSA := Lib.hid hsame
        clear HCA hsame H7a D8 T7 ap7 hup7 hua7 H8 ap8
        go_wp2_with fail
        refine HSA.out.mono ?_
        rintro e w9 ⟨rfl, hu9⟩
        have T9 := T8.up hu9
        have hup9 := hup8.trans hu9
        have hcr := crash_any T9.D hok K kn kc keep (HKR.out.up hup9) hkc hkn63 HKG.out (HKF.out (Nat.le_refl _) T9.D) (fun hm a ha => Nat.lt_of_lt_of_le (HKB.out hm a ha) hup9.size) htn
        have HCR := Lib.hid hcr
        clear HSA hcr T8 hup8 hu9
        go_wp2_with fail
        refine HCR.out.mono ?_
        rintro e wa ⟨ha, rfl, Ha, Da⟩
        obtain ⟨Ta, Wa⟩ := T9.stepD Ha Da
        have hupa := Wa.below T9 (Nat.le_refl _) hup9
        have hkra : 0 < kn → ∀ x, K = some x → ¬ rfoot hr x.block := fun hm x hx hf => by
          have h8 := HKB.out hm x hx
          have h7 := (Ta.R.lt hf).1
          omega
        have hrc := rcrash_any Ta.R hrok.toRkB K kn kc keep (HKR.out.up hupa) (by omega) HKG.out hkra
        rw [HR.out] at hrc
        have HRC := Lib.hid hrc
        clear HCR hrc hkra Ha Da T9 hup9
        go_wp2_with fail
        refine HRC.out.mono ?_
        rintro e wb ⟨hrb, rfl, Rb, Db⟩
        obtain ⟨Tb, Wb⟩ := Ta.stepR Rb Db
        have hupb := Wb.below Ta (Nat.le_refl _) hupa
        have hsame := same4_any Tb S1 ok1 (by omega)
        rw [Wa.g, Db.g, HR.out] at hsame
        have HSA := Lib.hid hsame
        clear HRC hsame Rb Db Ta hupa Wa Wb
        go_wp2_with fail
        refine HSA.out.mono ?_
        rintro e wc ⟨rfl, huc⟩
        go_wp2_with fail
        refine (awake4_any wc).mono ?_
        rintro e wd ⟨rfl, hud⟩
        go_wp2_with fail
        go_ret
        exact ⟨rfl, (hupb.trans huc).trans hud⟩
      · have i1 : ¬ (i : Int) < (n : Int) := by omega
        go_upto_region 11 with fail
        go_wp2_with fail
        refine HCP.out.mono ?_
        rintro e w5 ⟨hc, rfl, Hc, hu5⟩
        have T5 := T.copy Hc hu5
        have hup5 := hup.trans hu5
        have ap5 : ∀ k, (foot hc k ∨ rfoot hr k) → ¬ foot h k := fun k hk hf => by
          rcases hk with hk | hk
          · have h8 := (Hc.lt hk).1
            have h9 := (T.D.lt hf).2
            omega
          · exact T.ap k hf hk
        have H5 := T.D.up hu5
        have HG5 := HG
        have hcr := crash_any H5 hok K kn kc keep (HKR.out.up hup5) hkc hkn63 HKG.out (HKF.out (Nat.le_refl _) H5) (fun hm a ha => Nat.lt_of_lt_of_le (HKB.out hm a ha) hup5.size) htn
        rw [HG.out] at hcr
        have HCR := Lib.hid hcr
        clear HCP hcr Hc hu5 T hup
        go_wp2_with fail
        refine HCR.out.mono ?_
        rintro e w6 ⟨h6, rfl, H6, D6⟩
        obtain ⟨T6, ap6⟩ := T5.past D6 ap5
        have hup6 := D6.below H5 (Nat.le_refl _) hup5
        have hg6 : h6.g = G := D6.g.trans HG.out
        have hcc := create_any H6 ok1 t1.1 t1.2.1 t1.2.2.1 [122, 122] (by decide)
        rw [hg6] at hcc
        have HCC := Lib.hid hcc
        have HG6 := Lib.hid hg6
        clear HCR hcc H5 D6 T5 ap5 hup5 hg6
        go_wp2_with fail
        refine HCC.out.mono ?_
        rintro e w7 ⟨h7, rfl, H7, D7⟩
        obtain ⟨T7, ap7⟩ := T6.past D7 ap6
        have hup7 := D7.below H6 (Nat.le_refl _) hup6
        have hg7 : h7.g = G := D7.g.trans HG6.out
        obtain ⟨hconv, hra, hua7⟩ := bytes_const w7 #[.int .u8 109, .int .u8 111, .int .u8 114, .int .u8 101] [109, 111, 114, 101] 4 rfl rfl
        have H7a := H7.up hua7
        have hca := dappend_any H7a ok2 t2.1 [122, 122] (by decide) (some ⟨w7.heap.size, 0, none⟩) 4 4 [109, 111, 114, 101] hra (by omega) (fun k hk hf => by
          obtain ⟨a, ha, e⟩ := hk
          injection ha with ha
          subst ha
          have := (H7.lt hf).2
          simp at e
          omega)
        rw [hg7] at hca
        have HCA := Lib.hid hca
        clear HCC hca hra H6 D7 T6 ap6 hup6 H7 hg7 HG6
        go_wp2_with fail
        clear hconv
        refine HCA.out.mono ?_
        rintro e w8 ⟨h8, rfl, H8, D8⟩
        obtain ⟨T8, ap8⟩ := (T7.up hua7).past D8 ap7
        have hup8 := D8.below H7a (Nat.le_refl _) (hup7.trans hua7)
        have hsame := same4_any T8 S'.out hok (by omega)
        rw [HR.out] at hsame
        have HSA := Lib.hid hsame
        clear HCA hsame H7a D8 T7 ap7 hup7 hua7 H8 ap8
        go_wp2_with fail
        refine HSA.out.mono ?_
        rintro e w9 ⟨rfl, hu9⟩
        have T9 := T8.up hu9
        have hup9 := hup8.trans hu9
        have hcr := crash_any T9.D hok K kn kc keep (HKR.out.up hup9) hkc hkn63 HKG.out (HKF.out (Nat.le_refl _) T9.D) (fun hm a ha => Nat.lt_of_lt_of_le (HKB.out hm a ha) hup9.size) htn
        have HCR := Lib.hid hcr
        clear HSA hcr T8 hup8 hu9
        go_wp2_with fail
        refine HCR.out.mono ?_
        rintro e wa ⟨ha, rfl, Ha, Da⟩
        obtain ⟨Ta, Wa⟩ := T9.stepD Ha Da
        have hupa := Wa.below T9 (Nat.le_refl _) hup9
        have hkra : 0 < kn → ∀ x, K = some x → ¬ rfoot hr x.block := fun hm x hx hf => by
          have h8 := HKB.out hm x hx
          have h7 := (Ta.R.lt hf).1
          omega
        have hrc := rcrash_any Ta.R hrok.toRkB K kn kc keep (HKR.out.up hupa) (by omega) HKG.out hkra
        rw [HR.out] at hrc
        have HRC := Lib.hid hrc
        clear HCR hrc hkra Ha Da T9 hup9
        go_wp2_with fail
        refine HRC.out.mono ?_
        rintro e wb ⟨hrb, rfl, Rb, Db⟩
        obtain ⟨Tb, Wb⟩ := Ta.stepR Rb Db
        have hupb := Wb.below Ta (Nat.le_refl _) hupa
        have hsame := same4_any Tb S1 ok1 (by omega)
        rw [Wa.g, Db.g, HR.out] at hsame
        have HSA := Lib.hid hsame
        clear HRC hsame Rb Db Ta hupa Wa Wb
        go_wp2_with fail
        refine HSA.out.mono ?_
        rintro e wc ⟨rfl, huc⟩
        go_wp2_with fail
        refine (awake4_any wc).mono ?_
        rintro e wd ⟨rfl, hud⟩
        go_wp2_with fail
        go_ret
        exact ⟨rfl, (hupb.trans huc).trans hud⟩
end Go.Proofs.Ytebhhfmekmpnkaa.diskCopies

/-
  'clepsydra/clepsydralaw4.DiskCopies': for every input the law returns true; each argument reads behind the call as it read before. No condition.
-/
namespace Go.Proofs.Ytebhhfmekmpnkaa.diskCopies
open Go.ChangeShapes Go.WideShapes Go.ChangeAt Go.RowKit
open Go.ChangeMaps (open_string shut_string)
set_option linter.unusedVariables false

set_option maxRecDepth 100000 in
theorem lifted (os : Os) (started : os.Started) (H : Type) (enc : TypeId × Value → H) :
    ReturnsInHanded {} Try.checked os 10 .any (Rows.diskCopiesSpec.pre6 enc Try.prog Try.f10 Rows.diskCopiesRow.domain false) (Rows.diskCopiesSpec.post enc Try.prog Try.f10 false true false false) := by
  refine returnsInHanded_of_change (C := Try.checked) prog_own started (by kernel_rfl) Try.func10
    (ChangeSpec.witness6 (enc := enc) (C := Try.checked) false ⟨#[], #[.slice none 0 0, .slice none 0 0], []⟩ 8 (by kernel_rfl) (by kernel_rfl) (by kernel_rfl) (by kernel_rfl)) ?_
  intro W base args ds gs before hval0 hW hcnd _
  have hval : ∀ (j : Nat) t v, Try.f10.params[j]? = some t → args[j]? = some v → Value.okWide Try.prog W .any base t v := hval0
  have hW' := hW
  obtain ⟨p, q, hA0, hV, rfl, hfz, hnd⟩ := hW
  have hA : DataW.TrodAll enc Try.prog W 0 (fun _ => true) true Try.f10.params.toList args.toList ds p := hA0
  rw [Try.params10] at hA hval
  obtain ⟨v0, vs0, d0, ds0, p0, q0, hargs, rfl, rfl, h0, r0⟩ := trodAll_cons hA
  obtain ⟨v1, vs1, d1, ds1, p1, q1, rfl, rfl, rfl, h1, r1⟩ := trodAll_cons r0
  obtain ⟨rfl, rfl, rfl⟩ := trodAll_nil r1
  obtain rfl : args = #[v0, v1] := by cases args; simp_all
  obtain ⟨rfl, rfl⟩ := trodVars_none hV
  obtain ⟨a0, len0, cap0, rfl⟩ := okWide_slice Try.underlying52 (hval 0 52 v0 rfl rfl)
  have k0 := h0
  have lt0 : ∀ x ∈ p0, x.block < W.heap.size := by obtain ⟨m, hm⟩ := k0; exact DataW.trod_lt m _ _ _ hm
  obtain ⟨l0, w0⟩ := is_ops h0
  obtain ⟨a1, len1, cap1, rfl⟩ := okWide_slice Try.underlying22 (hval 1 22 v1 rfl rfl)
  have k1 := h1
  have lt1 : ∀ x ∈ p1, x.block < W.heap.size := by obtain ⟨m, hm⟩ := k1; exact DataW.trod_lt m _ _ _ hm
  obtain ⟨l1, w1⟩ := is_z h1
  clear hA0 hval0
  refine (law_any a0 len0 cap0 l0 a1 len1 cap1 l1 W w0 w1).mono fun e W' ⟨he, bel⟩ => ?_
  subst he
  exact ⟨_, rfl, _, _, _, [], _, [], hW', trodAll_mk1 (shut_bool Try.underlying4 _), (trodAll_cons_mk (Below.trod laidOut (by kernel_rfl) (of_decide_eq_true (by kernel_rfl)) k0 bel lt0) (trodAll_cons_mk (Below.trod laidOut (by kernel_rfl) (of_decide_eq_true (by kernel_rfl)) k1 bel lt1) trodAll_mk0)), rfl, bel.frame _, fun h => by cases h⟩

theorem proved : Rows.DiskCopiesSaid :=
  OpenClaim.holds_of_wide 10 Try.f10 rfl rfl rfl rfl rfl rfl rfl ⟨rfl, rfl, rfl, rfl, rfl⟩ rfl rfl rfl rfl rfl (by kernel_rfl) Try.func10 (by kernel_rfl)
    (of_decide_eq_true (by kernel_rfl)) (by unfold Func.isWrapper; first | (rw [if_pos (by decide +kernel)]; kernel_rfl) | (rw [if_neg (by decide +kernel)]; exact ⟨rfl, rfl⟩))
    (fun os started H enc _ => lifted os started H enc)
#print axioms proved
end Go.Proofs.Ytebhhfmekmpnkaa.diskCopies
