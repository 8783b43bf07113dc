/-
  'clepsydra/clepsydralaw4.DiskPlays': for every input the law returns true; each argument reads behind the call as it read before. No condition.
-/
import Derived.IntWalk
import Derived.Test.YtebhhfmekmpnkaaZ6
/-
  The law DiskPlays: the walk.
-/
namespace Go.Proofs.Ytebhhfmekmpnkaa.diskPlays
open Go.RowKit Go.Maps
set_option linter.unusedVariables false
set_option linter.unusedSimpArgs false

set_option maxRecDepth 100000 in
set_option maxHeartbeats 16000000 in
theorem law_any (q : Int) (A : Option Addr) (n c : Nat) (l : List OpV) (w : World) (b1 : -9223372036854775808 ≤ q ∧ q ≤ 9223372036854775807) (hops : IsOps w A n c l) :
    Calls Try.prog 11 #[.int .i64 q, .slice A n c] w fun e w' => e = .returned (.bool true) ∧ Up w w' := by
  have hn63 : n ≤ 9223372036854775807 := by have := hops.2.2; omega
  go_enter Try.func11, Try.ntmps11
  by_cases hq : 100000 < q
  · obtain ⟨Q, hQ⟩ : ∃ Q : Int, Q = q % 100000 := ⟨_, rfl⟩
    have hQ2 : q.tmod 100000 = Q := by rw [hQ, Int.tmod_eq_emod_of_nonneg (by omega)]
    have hQb : 0 ≤ Q ∧ Q < 100000 := by omega
    have hQw : IntKind.i64.wrap Q = Q := IntWalk.i64_in _ (by omega)
    clear hQ
    go_upto_region 3 with fail
    clear hQ2 hQw hq
    go_wp2_with fail
    refine (dnew_any (Q) w).mono ?_
    rintro e w1 ⟨h1, rfl, H1, hu1, hf1⟩
    go_wp2_with fail
    refine (rnew_any (Q) w1).mono ?_
    rintro e w2 ⟨hr1, rfl, R1, hu2, hf2⟩
    have T1 : Two w.heap.size h1 (newD (Q)) hr1 (newR (Q)) w2 := ⟨H1.up hu2, R1.baseR hu1.size, fun k hk hf => by have h8 := (H1.lt hk).2; have h9 := hf2 k hf; omega⟩
    have hu12 := hu1.trans hu2
    have HG1 := Lib.hid (rfl : h1.g = h1.g)
    generalize hG : h1.g = G at *
    have HG2 : Hid (h1.g = G) := Lib.hid hG
    generalize hGR : hr1.g = GR at *
    have HR2 : Hid (hr1.g = GR) := Lib.hid hGR
    have HOK1 : Hid (DkOk (newD (Q))) := newD_ok (by omega)
    have HS1 : Hid (Sm 0 (newD (Q)) (newR (Q))) := Sm.new _
    clear hG hGR HG1 hf1 hf2 H1 R1 hu1 hu2
    go_wp2_with fail
    refine (awake4_any w2).mono ?_
    rintro e w3 ⟨rfl, hu3⟩
    have T3 := T1.up hu3
    have hu13 := hu12.trans hu3
    clear T1 hu12 hu3
    go_wp2_with fail
    go_loopw [7] (fun iv wr => ∃ (i : Nat) (h : Hp) (d : Dk) (hr : Rh) (r : Rk), iv = .int .i64 (i : Int) ∧ i ≤ n ∧ i ≤ 60 ∧ Hid (h.g = G) ∧ Hid (hr.g = GR) ∧ Two w.heap.size h d hr r wr ∧ Hid (Sm (2 * i) d r) ∧ Hid (DkOk d) ∧ Up w wr) (fun iv _ => n - (intOf iv).toNat)
    case atStart => exact ⟨0, h1, _, hr1, _, rfl, Nat.zero_le _, Nat.zero_le _, HG2, HR2, T3, HS1, HOK1, hu13⟩
    case round =>
      obtain ⟨i, h, d, hr, r, rfl, hi, hi6, HG, HR, T, HSM, HOK, hup⟩ := hrel
      clear T3 hu13 HG2 HR2 HS1 HOK1
      by_cases hlt : i < n ∧ i < 60
      · have i1 : (i : Int) < (n : Int) := by omega
        have i2 : (i : Int) < 60 := by omega
        obtain ⟨b, o, ⟨ok, on, oa, ob, oA, oln, ocp, oks⟩, rfl, hx, hio, hcl⟩ := hops.at_ hlt.1
        obtain ⟨c0, c1, c2, c3, c4⟩ := hcl wr hup
        have HIO := Lib.hid hio
        (try dsimp only at c0 c1 c2 c3 c4)
        have hsa : (tx oa).size = oa.length := tx_size oa
        have hsb : (tx ob).size = ob.length := tx_size ob
        clear hx hio hcl
        by_cases l1 : 100 < oa.length
        · have l1i : (100 : Int) < (oa.length : Int) := by omega
          go_wp2_with fail
          go_ret
          exact ⟨rfl, hup⟩
        have l1i : ¬ (100 : Int) < (oa.length : Int) := by omega
        by_cases l2 : 100 < ob.length
        · have l2i : (100 : Int) < (ob.length : Int) := by omega
          go_wp2_with fail
          go_ret
          exact ⟨rfl, hup⟩
        have l2i : ¬ (100 : Int) < (ob.length : Int) := by omega
        by_cases l3 : 100 < oln
        · have l3i : (100 : Int) < (oln : Int) := by omega
          go_wp2_with fail
          go_ret
          exact ⟨rfl, hup⟩
        have l3i : ¬ (100 : Int) < (oln : Int) := by omega
        have hdo := do4_any T HSM.out HOK.out (by omega) ok on oa ob oA oln ocp oks HIO.out.n1 HIO.out.la HIO.out.lb (HIO.out.rd.up hup) HIO.out.c1 (by omega) HIO.out.bd (fun hm x hx hf => by
          obtain ⟨b', o', e, hb', _⟩ := HIO.out.rd.2 hm
          have hx' : oA = some x := hx
          have e' : oA = some ⟨b', o', none⟩ := e
          rw [hx'] at e'
          injection e' with e'
          subst e'
          have := (T.lt hf).1
          have hb2 : b' < w.heap.size := hb'
          simp at this
          omega)
        rw [HG.out, HR.out] at hdo
        have HD := Lib.hid hdo
        clear hdo
        go_upto_region 11 with fail
        clear hsa hsb l1 l2 l3 l1i l2i l3i
        go_wp2_with fail
        clear c0 c1 c2 c3 c4
        refine HD.out.mono ?_
        rintro e w4 ⟨rfl, h4, d4, hr4, r4, T4, W4, S4, ok4⟩
        have hup4 := W4.below T (Nat.le_refl _) hup
        have HG4 : Hid (h4.g = G) := Lib.hid (W4.g.trans HG.out)
        have HR4 : Hid (hr4.g = GR) := Lib.hid (W4.gr.trans HR.out)
        have hsame := same4_any T4 S4 ok4 (by omega)
        rw [HG4.out, HR4.out] at hsame
        have HSA := Lib.hid hsame
        have HS4 : Hid (Sm (2 * (i + 1)) d4 r4) := Lib.hid (S4.mono (by omega))
        have HOK4 := Lib.hid ok4
        clear hsame S4 ok4 HD HSM HOK T hup HG HR W4
        go_wp2_with fail
        refine HSA.out.mono ?_
        rintro e w5 ⟨rfl, hu5⟩
        have T5 := T4.up hu5
        have hup5 := hup4.trans hu5
        clear HSA T4 hup4 hu5
        go_wp2_with fail
        go_roundw
        case rel => exact ⟨i + 1, h4, d4, hr4, r4, by go_num, by omega, by omega, HG4, HR4, T5, HS4, HOK4, hup5⟩
        case measure => simp [intOf]; omega
      · by_cases hl1 : i < n
        · have i1 : (i : Int) < (n : Int) := by omega
          have i2 : ¬ (i : Int) < 60 := by omega
          go_wp2_with fail
          go_ret
          exact ⟨rfl, hup⟩
        · have i1 : ¬ (i : Int) < (n : Int) := by omega
          go_wp2_with fail
          go_ret
          exact ⟨rfl, hup⟩
  · have hqn : ¬ (100000 : Int) < q := hq
    go_upto_region 3 with fail
    go_wp2_with fail
    refine (dnew_any (q) w).mono ?_
    rintro e w1 ⟨h1, rfl, H1, hu1, hf1⟩
    go_wp2_with fail
    refine (rnew_any (q) w1).mono ?_
    rintro e w2 ⟨hr1, rfl, R1, hu2, hf2⟩
    have T1 : Two w.heap.size h1 (newD (q)) hr1 (newR (q)) w2 := ⟨H1.up hu2, R1.baseR hu1.size, fun k hk hf => by have h8 := (H1.lt hk).2; have h9 := hf2 k hf; omega⟩
    have hu12 := hu1.trans hu2
    have HG1 := Lib.hid (rfl : h1.g = h1.g)
    generalize hG : h1.g = G at *
    have HG2 : Hid (h1.g = G) := Lib.hid hG
    generalize hGR : hr1.g = GR at *
    have HR2 : Hid (hr1.g = GR) := Lib.hid hGR
    have HOK1 : Hid (DkOk (newD (q))) := newD_ok (by omega)
    have HS1 : Hid (Sm 0 (newD (q)) (newR (q))) := Sm.new _
    clear hG hGR HG1 hf1 hf2 H1 R1 hu1 hu2
    go_wp2_with fail
    refine (awake4_any w2).mono ?_
    rintro e w3 ⟨rfl, hu3⟩
    have T3 := T1.up hu3
    have hu13 := hu12.trans hu3
    clear T1 hu12 hu3
    go_wp2_with fail
    go_loopw [7] (fun iv wr => ∃ (i : Nat) (h : Hp) (d : Dk) (hr : Rh) (r : Rk), iv = .int .i64 (i : Int) ∧ i ≤ n ∧ i ≤ 60 ∧ Hid (h.g = G) ∧ Hid (hr.g = GR) ∧ Two w.heap.size h d hr r wr ∧ Hid (Sm (2 * i) d r) ∧ Hid (DkOk d) ∧ Up w wr) (fun iv _ => n - (intOf iv).toNat)
    case atStart => exact ⟨0, h1, _, hr1, _, rfl, Nat.zero_le _, Nat.zero_le _, HG2, HR2, T3, HS1, HOK1, hu13⟩
    case round =>
      obtain ⟨i, h, d, hr, r, rfl, hi, hi6, HG, HR, T, HSM, HOK, hup⟩ := hrel
      clear T3 hu13 HG2 HR2 HS1 HOK1
      by_cases hlt : i < n ∧ i < 60
      · have i1 : (i : Int) < (n : Int) := by omega
        have i2 : (i : Int) < 60 := by omega
        obtain ⟨b, o, ⟨ok, on, oa, ob, oA, oln, ocp, oks⟩, rfl, hx, hio, hcl⟩ := hops.at_ hlt.1
        obtain ⟨c0, c1, c2, c3, c4⟩ := hcl wr hup
        have HIO := Lib.hid hio
        (try dsimp only at c0 c1 c2 c3 c4)
        have hsa : (tx oa).size = oa.length := tx_size oa
        have hsb : (tx ob).size = ob.length := tx_size ob
        clear hx hio hcl
        by_cases l1 : 100 < oa.length
        · have l1i : (100 : Int) < (oa.length : Int) := by omega
          go_wp2_with fail
          go_ret
          exact ⟨rfl, hup⟩
        have l1i : ¬ (100 : Int) < (oa.length : Int) := by omega
        by_cases l2 : 100 < ob.length
        · have l2i : (100 : Int) < (ob.length : Int) := by omega
          go_wp2_with fail
          go_ret
          exact ⟨rfl, hup⟩
        have l2i : ¬ (100 : Int) < (ob.length : Int) := by omega
        by_cases l3 : 100 < oln
        · have l3i : (100 : Int) < (oln : Int) := by omega
          go_wp2_with fail
          go_ret
          exact ⟨rfl, hup⟩
        have l3i : ¬ (100 : Int) < (oln : Int) := by omega
        have hdo := do4_any T HSM.out HOK.out (by omega) ok on oa ob oA oln ocp oks HIO.out.n1 HIO.out.la HIO.out.lb (HIO.out.rd.up hup) HIO.out.c1 (by omega) HIO.out.bd (fun hm x hx hf => by
          obtain ⟨b', o', e, hb', _⟩ := HIO.out.rd.2 hm
          have hx' : oA = some x := hx
          have e' : oA = some ⟨b', o', none⟩ := e
          rw [hx'] at e'
          injection e' with e'
          subst e'
          have := (T.lt hf).1
          have hb2 : b' < w.heap.size := hb'
          simp at this
          omega)
        rw [HG.out, HR.out] at hdo
        have HD := Lib.hid hdo
        clear hdo
        go_upto_region 11 with fail
        clear hsa hsb l1 l2 l3 l1i l2i l3i
        go_wp2_with fail
        clear c0 c1 c2 c3 c4
        refine HD.out.mono ?_
        rintro e w4 ⟨rfl, h4, d4, hr4, r4, T4, W4, S4, ok4⟩
        have hup4 := W4.below T (Nat.le_refl _) hup
        have HG4 : Hid (h4.g = G) := Lib.hid (W4.g.trans HG.out)
        have HR4 : Hid (hr4.g = GR) := Lib.hid (W4.gr.trans HR.out)
        have hsame := same4_any T4 S4 ok4 (by omega)
        rw [HG4.out, HR4.out] at hsame
        have HSA := Lib.hid hsame
        have HS4 : Hid (Sm (2 * (i + 1)) d4 r4) := Lib.hid (S4.mono (by omega))
        have HOK4 := Lib.hid ok4
        clear hsame S4 ok4 HD HSM HOK T hup HG HR W4
        go_wp2_with fail
        refine HSA.out.mono ?_
        rintro e w5 ⟨rfl, hu5⟩
        have T5 := T4.up hu5
        have hup5 := hup4.trans hu5
        clear HSA T4 hup4 hu5
        go_wp2_with fail
        go_roundw
        case rel => exact ⟨i + 1, h4, d4, hr4, r4, by go_num, by omega, by omega, HG4, HR4, T5, HS4, HOK4, hup5⟩
        case measure => simp [intOf]; omega
      · by_cases hl1 : i < n
        · have i1 : (i : Int) < (n : Int) := by omega
          have i2 : ¬ (i : Int) < 60 := by omega
          go_wp2_with fail
          go_ret
          exact ⟨rfl, hup⟩
        · have i1 : ¬ (i : Int) < (n : Int) := by omega
          go_wp2_with fail
          go_ret
          exact ⟨rfl, hup⟩
end Go.Proofs.Ytebhhfmekmpnkaa.diskPlays

/-
  'clepsydra/clepsydralaw4.DiskPlays': for every input the law returns true; each argument reads behind the call as it read before. No condition.
-/
namespace Go.Proofs.Ytebhhfmekmpnkaa.diskPlays
open Go.ChangeShapes Go.WideShapes Go.ChangeAt Go.RowKit
open Go.ChangeMaps (open_string shut_string)
set_option linter.unusedVariables false

set_option maxRecDepth 100000 in
theorem lifted (os : Os) (started : os.Started) (H : Type) (enc : TypeId × Value → H) :
    ReturnsInHanded {} Try.checked os 11 .any (Rows.diskPlaysSpec.pre6 enc Try.prog Try.f11 Rows.diskPlaysRow.domain false) (Rows.diskPlaysSpec.post enc Try.prog Try.f11 false true false false) := by
  refine returnsInHanded_of_change (C := Try.checked) prog_own started (by kernel_rfl) Try.func11
    (ChangeSpec.witness6 (enc := enc) (C := Try.checked) false ⟨#[], #[.int .i64 0, .slice none 0 0], []⟩ 8 (by kernel_rfl) (by kernel_rfl) (by kernel_rfl) (by kernel_rfl)) ?_
  intro W base args ds gs before hval0 hW hcnd _
  have hval : ∀ (j : Nat) t v, Try.f11.params[j]? = some t → args[j]? = some v → Value.okWide Try.prog W .any base t v := hval0
  have hW' := hW
  obtain ⟨p, q, hA0, hV, rfl, hfz, hnd⟩ := hW
  have hA : DataW.TrodAll enc Try.prog W 0 (fun _ => true) true Try.f11.params.toList args.toList ds p := hA0
  rw [Try.params11] at hA hval
  obtain ⟨v0, vs0, d0, ds0, p0, q0, hargs, rfl, rfl, h0, r0⟩ := trodAll_cons hA
  obtain ⟨v1, vs1, d1, ds1, p1, q1, rfl, rfl, rfl, h1, r1⟩ := trodAll_cons r0
  obtain ⟨rfl, rfl, rfl⟩ := trodAll_nil r1
  obtain rfl : args = #[v0, v1] := by cases args; simp_all
  obtain ⟨rfl, rfl⟩ := trodVars_none hV
  obtain ⟨a0, rfl, rfl, rfl, w0⟩ := open_int Try.underlying3 (hval 0 3 v0 rfl rfl) h0
  have b0 := bd_i64 w0
  obtain ⟨a1, len1, cap1, rfl⟩ := okWide_slice Try.underlying52 (hval 1 52 v1 rfl rfl)
  have k1 := h1
  have lt1 : ∀ x ∈ p1, x.block < W.heap.size := by obtain ⟨m, hm⟩ := k1; exact DataW.trod_lt m _ _ _ hm
  obtain ⟨l1, w1⟩ := is_ops h1
  clear hA0 hval0
  refine (law_any a0 a1 len1 cap1 l1 W b0 w1).mono fun e W' ⟨he, bel⟩ => ?_
  subst he
  exact ⟨_, rfl, _, _, _, [], _, [], hW', trodAll_mk1 (shut_bool Try.underlying4 _), (trodAll_cons_mk (shut_int Try.underlying3 w0) (trodAll_cons_mk (Below.trod laidOut (by kernel_rfl) (of_decide_eq_true (by kernel_rfl)) k1 bel lt1) trodAll_mk0)), rfl, bel.frame _, fun h => by cases h⟩

theorem proved : Rows.DiskPlaysSaid :=
  OpenClaim.holds_of_wide 11 Try.f11 rfl rfl rfl rfl rfl rfl rfl ⟨rfl, rfl, rfl, rfl, rfl⟩ rfl rfl rfl rfl rfl (by kernel_rfl) Try.func11 (by kernel_rfl)
    (of_decide_eq_true (by kernel_rfl)) (by unfold Func.isWrapper; first | (rw [if_pos (by decide +kernel)]; kernel_rfl) | (rw [if_neg (by decide +kernel)]; exact ⟨rfl, rfl⟩))
    (fun os started H enc _ => lifted os started H enc)
#print axioms proved
end Go.Proofs.Ytebhhfmekmpnkaa.diskPlays
