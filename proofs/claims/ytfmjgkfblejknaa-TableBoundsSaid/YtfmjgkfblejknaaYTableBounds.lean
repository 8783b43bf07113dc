/-
  'clepsydra/clepsydralaw12.TableBounds': for every input the law returns true; each argument reads behind the call as it read before. No condition.
-/
import Derived.Test.YtfmjgkfblejknaaZ7
/-
  The law TableBounds: the walk.
-/
namespace Go.Proofs.Ytfmjgkfblejknaa.tableBounds
open Go.RowKit
set_option linter.unusedVariables false
set_option linter.unusedSimpArgs false

set_option maxRecDepth 100000 in
set_option maxHeartbeats 8000000 in
theorem law_any (n i k : Int) (w : World) (b1 : -9223372036854775808 ≤ n ∧ n ≤ 9223372036854775807) (b2 : -9223372036854775808 ≤ i ∧ i ≤ 9223372036854775807) (b3 : -9223372036854775808 ≤ k ∧ k ≤ 9223372036854775807) :
    Calls Try.prog 3 #[.int .i64 n, .int .i64 i, .int .i64 k] w fun e w' => e = .returned (.bool true) ∧ Up w w' := by
  obtain ⟨N0, hN0, hN1⟩ := i64_and_le n 15 (by omega)
  replace hN0 : bits .and .i64 n 15 = (N0 : Int) := hN0
  obtain ⟨N, hN⟩ : ∃ N, N = N0 + 1992 := ⟨_, rfl⟩
  have hNw : IntKind.i64.wrap ((N0 : Int) + 1992) = (N : Int) := by rw [IntWalk.i64_in _ (by omega)]; omega
  have hNv : (N0 : Int) + 1992 = (N : Int) := by omega
  obtain ⟨hN2, hN3⟩ : 1992 ≤ N ∧ N ≤ 2007 := by omega
  clear hN hN1
  go_enter Try.func3, Try.ntmps3
  go_wp2_with fail
  refine (more12_any none 0 0 [] N w Rd.empty (by omega) (by omega)).mono ?_
  rintro e w1 ⟨R, rc, rfl, hQ, hu1⟩
  obtain ⟨q, hq⟩ : ∃ q, q = moreL [] N := ⟨_, rfl⟩
  rw [← hq] at hQ
  have hql := OwnI.ilen hQ
  have hrq := Rd.own hQ
  have hcq := own_cap hQ
  by_cases h2 : 2000 < N
  · have hme : makeE q = 2 := by rw [hq]; exact moreL_long [] h2
    have hml : makeL q = [] := by unfold makeL; rw [hme, if_neg (by decide)]
    have HMK := Lib.hid (make_any R N rc q w1 hrq hcq (by omega))
    have HE := Lib.hid hme
    have HL := Lib.hid hml
    have i1 : (2000 : Int) < (N : Int) := by omega
    clear hme hml hq hQ hrq hql
    go_wp2_with fail
    refine HMK.out.mono ?_
    rintro e w2 ⟨B, bn, bc, rfl, hoB, hu2⟩
    rw [HE.out]
    rw [show ((2 : Nat) : Int) = 2 from rfl]
    rw [HL.out] at hoB
    have hbn : bn = 0 := (Rd.own hoB).blen
    subst hbn
    clear hoB
    go_wp2_with fail
    refine (awake12_any _).mono ?_
    rintro e w3 ⟨rfl, hu3⟩
    go_wp2_with fail
    go_ret
    exact ⟨rfl, (hu1.trans hu2).trans hu3⟩
  · have hme : makeE q = 0 := by rw [hq]; exact moreL_make [] (by omega)
    have hml : makeL q = tabB q := by unfold makeL; rw [if_pos hme]
    have HMK := Lib.hid (make_any R N rc q w1 hrq hcq (by omega))
    have HE := Lib.hid hme
    have HL := Lib.hid hml
    have HQL := Lib.hid hql
    have i1 : ¬ (2000 : Int) < (N : Int) := by omega
    clear hme hml hq hql
    go_wp2_with fail
    refine HMK.out.mono ?_
    rintro e w2 ⟨B, bn, bc, rfl, hoB, hu2⟩
    rw [HE.out]
    rw [show ((0 : Nat) : Int) = 0 from rfl]
    rw [HL.out] at hoB
    have HRD := Lib.hid (tread_tab B bn bc q w2 (Rd.own hoB) HE.out (own_cap hoB))
    clear hoB HMK
    go_wp2_with fail
    refine HRD.out.mono ?_
    rintro e w3 ⟨g, m, rc3, R3, rs, rfl, hd3, hX3, hu3⟩
    rw [← HQL.out] at hd3
    have HTL := Lib.hid (tlen_any g m rc3 N 0 R3 none w3 hd3)
    have hup3 := (hu1.trans hu2).trans hu3
    have hQ3 := (hQ.up hu2).up hu3
    have hr3 := (hrq.up hu2).up hu3
    clear HRD hd3 hX3 hQ hrq hu2 hu3
    go_wp2_with fail
    refine HTL.out.mono ?_
    rintro e w4 ⟨rfl, rfl⟩
    clear HTL
    go_wp2_with (at_builtin; refine wpList_append_rd _ itemsT (row_new w3 #[] 35 (base := w3.heap.size) (sz := 5) (n := 0) (Nat.le_refl _) rfl (by omega)) (hr3.up ((Up.refl _).alloc _)) (itcs_one _) (by omega) (by omega) (by simp) rfl rfl rfl rfl ?_; intro v5 w5 hown5 hg5 hat5; obtain ⟨R5, rc5, rfl⟩ := own_form hown5
                 rw [Nat.zero_add, List.nil_append] at hown5
                 simp only [Nat.zero_add]
                 have hu35 : Up w3 w5 := ((Up.refl w3).alloc _).grown hg5 (fun g hg => ((row_new w3 #[] 35 (base := w3.heap.size) (sz := 5) (n := 0) (Nat.le_refl _) rfl (by omega)).lt g hg).1))
    have hM5 : OwnI w5 w3.heap.size R5 N rc5 q := hown5
    have hup5 := hup3.trans hu35
    have hw3s := hup3.size
    clear hown5 hg5 hat5 hu35 hr3 hQ3 hup3
    obtain ⟨C, hC, hC2⟩ := i64_and_le i 65535 (by omega)
    replace hC : bits .and .i64 i 65535 = (C : Int) := hC
    obtain ⟨D, hD, hD2⟩ := i64_and_le k 65535 (by omega)
    replace hD : bits .and .i64 k 65535 = (D : Int) := hD
    have hN0' : ¬ (N : Int) = 0 := by omega
    have hN0n : ¬ N = 0 := by omega
    obtain ⟨I, hI⟩ : ∃ I, I = C % N := ⟨_, rfl⟩
    obtain ⟨J, hK⟩ : ∃ J, J = D % N := ⟨_, rfl⟩
    have hIN : I < N := by rw [hI]; exact Nat.mod_lt _ (by omega)
    have hKN : J < N := by rw [hK]; exact Nat.mod_lt _ (by omega)
    have e1 : (C : Int) % (N : Int) = (I : Int) := by rw [hI]; exact (Int.natCast_emod C N).symm
    have e2 : Int.tmod (C : Int) (N : Int) = (I : Int) := by rw [Int.tmod_eq_emod_of_nonneg (by omega)]; exact e1
    have e3 : (D : Int) % (N : Int) = (J : Int) := by rw [hK]; exact (Int.natCast_emod D N).symm
    have e4 : Int.tmod (D : Int) (N : Int) = (J : Int) := by rw [Int.tmod_eq_emod_of_nonneg (by omega)]; exact e3
    have e5 : IntKind.i64.wrap (I : Int) = (I : Int) := IntWalk.i64_in _ (by omega)
    have e6 : IntKind.i64.wrap (J : Int) = (J : Int) := IntWalk.i64_in _ (by omega)
    have e7 : (I : Int) < (N : Int) := by omega
    have e8 : (J : Int) < (N : Int) := by omega
    clear hI hK
    go_wp2_with fail
    apply Rg.region_up (fun W => Up w5 W) (by kernel_rfl) (by kernel_rfl) (fun _ h => h)
    · intro QN hQN
      iterate 10 (apply Rg.RK.ok; (· intro vs w1 hS; go_simp; with_reducible rfl); (· rfl); simp only [Act.put, List.setIfInBounds_toArray, List.set_cons_zero, List.set_cons_succ, Nat.reduceAdd])
      apply Rg.RK.fin []
      intro vs w1 hK hS _
      refine hQN.out _ _ ?_
      clear hQN
      have hM6 := hM5.up hS
      have hup6 := hup5.trans hS
      clear hM5 hK hS hup5
      obtain ⟨gM, rfl, hgM1, hgM2⟩ := own_some hM6 (by omega)
      generalize hbase : w3.heap.size = base at *
      obtain ⟨x, hx⟩ : ∃ x, x = q.getD I noIt := ⟨_, rfl⟩
      obtain ⟨y, hy⟩ : ∃ y, y = q.getD J noIt := ⟨_, rfl⟩
      have hsw : (q.set I y).set J x = swapL q I J := by rw [hx, hy]; rfl
      have HSW := Lib.hid hsw
      have HX := Lib.hid hx.symm
      have HY := Lib.hid hy.symm
      clear hsw hx hy
      go_wp2_with fail
      apply Rg.region_own 16 (fun W => Rg.Keeps (fun k => k = gM) w1 W) (fun k => k = gM) (fun W => OwnI W base (some ⟨gM, 0, none⟩) N rc5 q) rfl (by kernel_rfl) (by kernel_rfl) (by rintro k rfl; exact hgM2) (hM6.up (Up.refl _).drew) (fun w1 w2 h hs => OwnI.sta h hs (.inr rfl)) (fun W hK => ⟨hK.os, hK.tape, hK.output, hK.size, hK.block⟩)
      · intro QN hQN
        iterate 7 (apply Rg.RK.ok; (· intro vs w1 hS; go_simp; with_reducible rfl); (· rfl); simp only [Act.put, List.setIfInBounds_toArray, List.set_cons_zero, List.set_cons_succ, Nat.reduceAdd])
        apply Rg.RK.okU [16]
        · intro vs w1 hS hf
          have hb1 : OwnI w1 base (some ⟨gM, 0, none⟩) N rc5 q := hf.1
          obtain ⟨⟨t0, t1, t2, t3, t4⟩, -⟩ := own_item_at hb1 hKN
          rw [HY.out] at t0 t1 t2 t3 t4
          clear hb1
          go_simp
          with_reducible rfl
        · rfl
        simp only [Act.put, List.setIfInBounds_toArray, List.set_cons_zero, List.set_cons_succ, Nat.reduceAdd]
        iterate 3 (apply Rg.RK.ok; (· intro vs w1 hS; go_simp; with_reducible rfl); (· rfl); simp only [Act.put, List.setIfInBounds_toArray, List.set_cons_zero, List.set_cons_succ, Nat.reduceAdd])
        apply Rg.RK.okU [16]
        · intro vs w1 hS hf
          have hb1 : OwnI w1 base (some ⟨gM, 0, none⟩) N rc5 q := hf.1
          obtain ⟨⟨t0, t1, t2, t3, t4⟩, -⟩ := own_item_at hb1 hIN
          rw [HX.out] at t0 t1 t2 t3 t4
          clear hb1
          go_simp
          with_reducible rfl
        · rfl
        simp only [Act.put, List.setIfInBounds_toArray, List.set_cons_zero, List.set_cons_succ, Nat.reduceAdd]
        iterate 1 (apply Rg.RK.ok; (· intro vs w1 hS; go_simp; with_reducible rfl); (· rfl); simp only [Act.put, List.setIfInBounds_toArray, List.set_cons_zero, List.set_cons_succ, Nat.reduceAdd])
        apply Rg.RK.opD (fun vs W => OwnI W base (some ⟨gM, 0, none⟩) N rc5 ((q).set I (y))) (fun vs k => k = gM) [16] [16] [] (fun _ _ _ => ⟨rfl, rfl⟩)
        · exact fun vs W1 W2 h hs => OwnI.sta h hs (.inr rfl)
        · rfl
        · intro vs w2 hK hS hf K hKK
          have hb1 : OwnI w2 base (some ⟨gM, 0, none⟩) N rc5 (q) := hf.1
          obtain ⟨⟨t0, t1, t2, t3, t4⟩, z⟩ := own_item_at hb1 hIN
          have r2 := own_item_set hb1 hIN (y)
          have z0 := z (I * 5)
          have z1 := z (I * 5 + 1)
          have z2 := z (I * 5 + 2)
          have z3 := z (I * 5 + 3)
          have z4 := z (I * 5 + 4)
          clear z hb1
          go_simp
          refine hKK.out undef _ r2.1 (Keeps.weak r2.2 fun x hx => ⟨16, List.mem_singleton.2 rfl, hx⟩) (fun x hx => ⟨?_, .inr ⟨16, List.mem_singleton.2 rfl, hx⟩⟩)
          have hxx : x = gM := hx
          rw [hxx]; exact OwnI.glt r2.1
        simp only [Act.put, List.setIfInBounds_toArray, List.set_cons_zero, List.set_cons_succ, Nat.reduceAdd]
        iterate 1 (apply Rg.RK.ok; (· intro vs w1 hS; go_simp; with_reducible rfl); (· rfl); simp only [Act.put, List.setIfInBounds_toArray, List.set_cons_zero, List.set_cons_succ, Nat.reduceAdd])
        apply Rg.RK.opD (fun vs W => OwnI W base (some ⟨gM, 0, none⟩) N rc5 ((q.set I y).set J (x))) (fun vs k => k = gM) [13] [13] [] (fun _ _ _ => ⟨rfl, rfl⟩)
        · exact fun vs W1 W2 h hs => OwnI.sta h hs (.inr rfl)
        · rfl
        · intro vs w2 hK hS hf K hKK
          have hb1 : OwnI w2 base (some ⟨gM, 0, none⟩) N rc5 (q.set I y) := hf.1
          obtain ⟨⟨t0, t1, t2, t3, t4⟩, z⟩ := own_item_at hb1 hKN
          have r2 := own_item_set hb1 hKN (x)
          have z0 := z (J * 5)
          have z1 := z (J * 5 + 1)
          have z2 := z (J * 5 + 2)
          have z3 := z (J * 5 + 3)
          have z4 := z (J * 5 + 4)
          clear z hb1
          go_simp
          refine hKK.out undef _ r2.1 (Keeps.weak r2.2 fun x hx => ⟨13, List.mem_singleton.2 rfl, hx⟩) (fun x hx => ⟨?_, .inr ⟨13, List.mem_singleton.2 rfl, hx⟩⟩)
          have hxx : x = gM := hx
          rw [hxx]; exact OwnI.glt r2.1
        simp only [Act.put, List.setIfInBounds_toArray, List.set_cons_zero, List.set_cons_succ, Nat.reduceAdd]
        apply Rg.RK.fin [15]
        intro vs w8 hK hS hf
        obtain ⟨hM8, -⟩ := hf
        refine hQN.out _ _ ?_
        clear hQN
        have hM8' : OwnI w8 base (some ⟨gM, 0, none⟩) N rc5 (swapL q I J) := by rw [← HSW.out]; exact hM8
        have hup8 := keepsUpX hup6 (Nat.le_trans hw3s hgM1) hS
        clear hM8 hK hS hM6 hup6
        have hmk := make_any (some ⟨gM, 0, none⟩) N rc5 _ w8 (Rd.own hM8') (own_cap hM8') (by omega)
        have hme2 := swapL_make HE.out (i := I) (k := J) (by rw [← HQL.out]; exact hIN) (by rw [← HQL.out]; exact hKN)
        unfold MkPost at hmk
        rw [hme2] at hmk
        have HMK := Lib.hid hmk
        clear hmk hme2 hM8'
        by_cases hIK : I = J
        · rw [if_pos hIK] at HMK
          have j1 : ((I : Int) == (J : Int)) = true := by rw [beq_iff_eq]; omega
          go_wp2_with fail
          refine HMK.out.mono ?_
          rintro e w9 ⟨B9, n9, c9, rfl, -, hu9⟩
          rw [show ((0 : Nat) : Int) = 0 from rfl]
          go_wp2_with fail
          refine (awake12_any _).mono ?_
          rintro e w10 ⟨rfl, hu10⟩
          go_wp2_with fail
          go_ret
          exact ⟨rfl, (hup8.trans hu9).trans hu10⟩
        · rw [if_neg hIK] at HMK
          have j1 : ((I : Int) == (J : Int)) = false := by rw [beq_eq_false_iff_ne]; omega
          go_wp2_with fail
          refine HMK.out.mono ?_
          rintro e w9 ⟨B9, n9, c9, rfl, -, hu9⟩
          rw [show ((1 : Nat) : Int) = 1 from rfl]
          go_wp2_with fail
          refine (awake12_any _).mono ?_
          rintro e w10 ⟨rfl, hu10⟩
          go_wp2_with fail
          go_ret
          exact ⟨rfl, (hup8.trans hu9).trans hu10⟩
      · kernel_rfl
    · kernel_rfl
end Go.Proofs.Ytfmjgkfblejknaa.tableBounds

/-
  'clepsydra/clepsydralaw12.TableBounds': for every input the law returns true; each argument reads behind the call as it read before. No condition.
-/

namespace Go.Proofs.Ytfmjgkfblejknaa.tableBounds
open Go.ChangeShapes Go.WideShapes Go.ChangeAt Go.RowKit
open Go.ChangeMaps (open_string shut_string)
set_option linter.unusedVariables false

set_option maxRecDepth 100000 in
theorem lifted (os : Os) (started : os.Started) (H : Type) (enc : TypeId × Value → H) :
    ReturnsInHanded {} Try.checked os 3 .any (Rows.tableBoundsSpec.pre6 enc Try.prog Try.f3 Rows.tableBoundsRow.domain false) (Rows.tableBoundsSpec.post enc Try.prog Try.f3 false true false false) := by
  refine returnsInHanded_of_change (C := Try.checked) prog_own started (by kernel_rfl) Try.func3
    (ChangeSpec.witness6 (enc := enc) (C := Try.checked) false ⟨#[], #[.int .i64 0, .int .i64 0, .int .i64 0], []⟩ 8 (by kernel_rfl) (by kernel_rfl) (by kernel_rfl) (by kernel_rfl)) ?_
  intro W base args ds gs before hval0 hW hcnd _
  have hval : ∀ (j : Nat) t v, Try.f3.params[j]? = some t → args[j]? = some v → Value.okWide Try.prog W .any base t v := hval0
  have hW' := hW
  obtain ⟨p, q, hA0, hV, rfl, hfz, hnd⟩ := hW
  have hA : DataW.TrodAll enc Try.prog W 0 (fun _ => true) true Try.f3.params.toList args.toList ds p := hA0
  rw [Try.params3] at hA hval
  obtain ⟨v0, vs0, d0, ds0, p0, q0, hargs, rfl, rfl, h0, r0⟩ := trodAll_cons hA
  obtain ⟨v1, vs1, d1, ds1, p1, q1, rfl, rfl, rfl, h1, r1⟩ := trodAll_cons r0
  obtain ⟨v2, vs2, d2, ds2, p2, q2, rfl, rfl, rfl, h2, r2⟩ := trodAll_cons r1
  obtain ⟨rfl, rfl, rfl⟩ := trodAll_nil r2
  obtain rfl : args = #[v0, v1, v2] := by cases args; simp_all
  obtain ⟨rfl, rfl⟩ := trodVars_none hV
  obtain ⟨a0, rfl, rfl, rfl, w0⟩ := open_int Try.underlying3 (hval 0 3 v0 rfl rfl) h0
  have b0 := bd_i64 w0
  obtain ⟨a1, rfl, rfl, rfl, w1⟩ := open_int Try.underlying3 (hval 1 3 v1 rfl rfl) h1
  have b1 := bd_i64 w1
  obtain ⟨a2, rfl, rfl, rfl, w2⟩ := open_int Try.underlying3 (hval 2 3 v2 rfl rfl) h2
  have b2 := bd_i64 w2
  clear hA0 hval0
  refine (law_any a0 a1 a2 W b0 b1 b2).mono fun e W' ⟨he, bel⟩ => ?_
  subst he
  exact ⟨_, rfl, _, _, _, [], _, [], hW', trodAll_mk1 (shut_bool Try.underlying4 _), (trodAll_cons_mk (shut_int Try.underlying3 w0) (trodAll_cons_mk (shut_int Try.underlying3 w1) (trodAll_cons_mk (shut_int Try.underlying3 w2) trodAll_mk0))), rfl, bel.frame _, fun h => by cases h⟩

theorem proved : Rows.TableBoundsSaid :=
  OpenClaim.holds_of_wide 3 Try.f3 rfl rfl rfl rfl rfl rfl rfl ⟨rfl, rfl, rfl, rfl, rfl⟩ rfl rfl rfl rfl rfl (by kernel_rfl) Try.func3 (by kernel_rfl)
    (of_decide_eq_true (by kernel_rfl)) (by unfold Func.isWrapper; first | (rw [if_pos (by decide +kernel)]; kernel_rfl) | (rw [if_neg (by decide +kernel)]; exact ⟨rfl, rfl⟩))
    (fun os started H enc _ => lifted os started H enc)
#print axioms proved
end Go.Proofs.Ytfmjgkfblejknaa.tableBounds
