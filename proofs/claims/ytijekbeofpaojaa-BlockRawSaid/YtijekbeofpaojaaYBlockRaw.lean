/-
  'clepsydra/clepsydralaw11.BlockRaw': for every input the law returns true; each argument reads behind the call as it read before. No condition.
-/
import Derived.Test.YtijekbeofpaojaaZ5
/-
  The law BlockRaw: the walk.
-/
namespace Go.Proofs.Ytijekbeofpaojaa.blockRaw
open Go.RowKit
set_option linter.unusedVariables false
set_option linter.unusedSimpArgs false

set_option maxRecDepth 100000 in
set_option maxHeartbeats 16000000 in
theorem law_any (B : Option Addr) (n c : Nat) (bs : List UInt8) (at0 : Int) (A : Option Addr) (an ac : Nat) (l : List It) (to by0 cut : Int) (w : World) (h0 : IsB w B n c bs) (b1 : -9223372036854775808 ≤ at0 ∧ at0 ≤ 9223372036854775807) (h2 : IsI w A an ac l ∧ an ≤ 3518437208780)
    (b3 : -9223372036854775808 ≤ to ∧ to ≤ 9223372036854775807) (b4 : 0 ≤ by0 ∧ by0 ≤ 255) (b5 : -9223372036854775808 ≤ cut ∧ cut ≤ 9223372036854775807) :
    Calls Try.prog 6 #[.slice B n c, .int .i64 at0, .slice A an ac, .int .i64 to, .int .u8 by0, .int .i64 cut] w fun e w' => e = .returned (.bool true) ∧ Up w w' := by
  obtain ⟨hb, hnc, -⟩ := h0
  obtain ⟨⟨ha, hac, -⟩, han⟩ := h2
  go_enter Try.func6, Try.ntmps6
  go_wp2_with fail
  refine (one11_any A an ac l w ha hac han).mono ?_
  intro e w1 ho
  obtain ⟨V, vm, vc, rfl, hu1, hR⟩ := rowsQ_any A an l w w1 ha han ho
  clear ho ha hac
  go_wp2_with fail
  refine hR.mono ?_
  rintro e w2 ⟨R, rn, rc, rfl, hown, hu2⟩
  have hup2 := hu1.trans hu2
  have hq := Rd.own hown
  have hql := hq.ilen
  have hmay := rowsL_may l
  replace hmay : 0 < (qL l).length → (qL l).length ≤ 100 → bErr (qL l) = 0 := hmay
  generalize qL l = q at *
  have HQL := Lib.hid hql
  have HMAY := Lib.hid hmay
  have hbB := hb.up hup2
  clear hR hown hql hmay hu1 hu2 hb
  by_cases c0 : 2000 < n
  · have c0i : (2000 : Int) < (n : Int) := by omega
    go_wp2_with fail
    refine (awake11_any _).mono ?_
    rintro e w4 ⟨rfl, hu4⟩
    go_wp2_with fail
    go_ret
    exact ⟨rfl, hup2.trans hu4⟩
  have c0i : ¬ (2000 : Int) < (n : Int) := by omega
  by_cases c1 : 60 < rn
  · have c1i : (60 : Int) < (rn : Int) := by omega
    go_wp2_with fail
    refine (awake11_any _).mono ?_
    rintro e w4 ⟨rfl, hu4⟩
    go_wp2_with fail
    go_ret
    exact ⟨rfl, hup2.trans hu4⟩
  have c1i : ¬ (60 : Int) < (rn : Int) := by omega
  by_cases hz : rn = 0
  · subst hz
    clear HMAY hq HQL
    have hrx := hbB
    have hblx := hrx.blen
    obtain ⟨E, ql, nx, hT⟩ : ∃ a b c, takeB (bs) at0 = (a, b, c) := ⟨_, _, _, rfl⟩
    have hbad := Lib.hid (fun h => takeB_no hT h)
    have hgood := Lib.hid (fun (h : E = 0) => takeB_canon (l := bs) (at_ := at0) (q := ql) (n := nx) (by rw [hT, h]))
    have HT := Lib.hid hT
    have HBLX := Lib.hid hblx
    clear hT hblx
    (try go_wp2_with fail)
    refine (btake_any (B) (n) (c) (bs) at0 w2 hrx (by omega) (by omega)).mono ?_
    rintro e w8 ⟨Y, yn, yc, rfl, hY, hyc, hu8⟩
    rw [HT.out] at hY ⊢
    (try dsimp only at hY ⊢)
    have hyl := hY.ilen
    have HYL := Lib.hid hyl
    have hup8 := hup2.trans hu8
    clear hyl HT
    have hblx := HBLX.out
    by_cases hE : E = 0
    · obtain ⟨p, mm, hp, hm, hpm, hml, hbe, hfr⟩ := hgood.out hE
      subst hE; subst hp; subst hm
      have hq3 := (bErr_ok hbe).1
      have hr2 := ((hrx.bfrom (k := p) (cap := c) (by omega) (by omega)).bto (k := mm - p) (by omega)).up hu8
      rw [hfr] at hr2
      have HBE := Lib.hid hbe
      have CUT := fun W => cut_lh_b W (B) (n) (c) .i64 .i64 (p : Int) (mm : Int) (by omega) (by omega) (by omega)
      simp only [Int.toNat_natCast] at CUT
      have d3 : decide (p < mm) = true := by simp; omega
      have d2 : decide (mm ≤ n) = true := by simp; omega
      have s2 := tx_beq (rfl : frameB 2 (itemsB ql) = frameB 2 (itemsB ql))
      have hyn : yn ≤ 100 := by have := HYL.out; omega
      generalize cutA (B) (c) p 1 = A2 at *
      have HPM := Lib.hid hpm
      have HML := Lib.hid hml
      clear hbad hgood hbe hfr hrx hup8 hblx hpm hml
      go_wp2_with fail
      apply Rg.region_up (fun W => Up w8 W) (by kernel_rfl) (by kernel_rfl) (fun _ h => h)
      · intro QN hQN
        iterate 4 (apply Rg.RK.ok; (· intro vs w1 hS; go_simp; with_reducible rfl); (· rfl); simp only [Act.put, List.setIfInBounds_toArray, List.set_cons_zero, List.set_cons_succ, Nat.reduceAdd])
        iterate 4 (apply Rg.RK.gok (t := 103); (· intro vs w1 hS; go_simp; with_reducible rfl); (· rfl); (· intro vs; rfl); simp only [Act.put, List.setIfInBounds_toArray, List.set_cons_zero, List.set_cons_succ, Nat.reduceAdd])
        iterate 2 (apply Rg.RK.ok; (· intro vs w1 hS; go_simp; with_reducible rfl); (· rfl); simp only [Act.put, List.setIfInBounds_toArray, List.set_cons_zero, List.set_cons_succ, Nat.reduceAdd])
        iterate 1 (apply Rg.RK.gok (t := 109); (· intro vs w1 hS; go_simp; with_reducible rfl); (· rfl); (· intro vs; rfl); simp only [Act.put, List.setIfInBounds_toArray, List.set_cons_zero, List.set_cons_succ, Nat.reduceAdd])
        apply Rg.RK.gcall (t := 109) (.int .i64 ((bErr ql : Nat) : Int)) []
        · rfl
        · intro vs; rfl
        · intro vs w1 hK hS _ K hKK
          go_simp
          refine (rbmay_any Y yn yc ql w1 (hY.up hS) (by omega)).mono ?_
          rintro e w2 ⟨rfl, hu2⟩
          exact hKK.out _ hu2
        simp only [Act.put, List.setIfInBounds_toArray, List.set_cons_zero, List.set_cons_succ, Nat.reduceAdd]
        rw [HBE.out]
        iterate 1 (apply Rg.RK.gok (t := 109); (· intro vs w1 hS; go_simp; with_reducible rfl); (· rfl); (· intro vs; rfl); simp only [Act.put, List.setIfInBounds_toArray, List.set_cons_zero, List.set_cons_succ, Nat.reduceAdd])
        iterate 2 (apply Rg.RK.ok; (· intro vs w1 hS; go_simp; with_reducible rfl); (· rfl); simp only [Act.put, List.setIfInBounds_toArray, List.set_cons_zero, List.set_cons_succ, Nat.reduceAdd])
        iterate 4 (apply Rg.RK.gok (t := 114); (· intro vs w1 hS; go_simp; with_reducible rfl); (· rfl); (· intro vs; rfl); simp only [Act.put, List.setIfInBounds_toArray, List.set_cons_zero, List.set_cons_succ, Nat.reduceAdd])
        apply Rg.RK.gok (t := 114) (v := .string (tx (frameB 2 (itemsB ql))))
        · intro vs w1 hS
          exact exec_str rfl rfl (hr2.up hS)
        · rfl
        · intro vs; rfl
        simp only [Act.put, List.setIfInBounds_toArray, List.set_cons_zero, List.set_cons_succ, Nat.reduceAdd]
        iterate 1 (apply Rg.RK.gok (t := 114); (· intro vs w1 hS; go_simp; with_reducible rfl); (· rfl); (· intro vs; rfl); simp only [Act.put, List.setIfInBounds_toArray, List.set_cons_zero, List.set_cons_succ, Nat.reduceAdd])
        apply Rg.RK.gcall (t := 114) (.string (tx (frameB 2 (itemsB ql)))) []
        · rfl
        · intro vs; rfl
        · intro vs w1 hK hS _ K hKK
          go_simp
          refine (rblock_any Y yn yc ql w1 (hY.up hS) hyn).mono ?_
          rintro e w2 ⟨rfl, hu2⟩
          exact hKK.out _ hu2
        simp only [Act.put, List.setIfInBounds_toArray, List.set_cons_zero, List.set_cons_succ, Nat.reduceAdd]
        iterate 1 (apply Rg.RK.gok (t := 114); (· intro vs w1 hS; go_simp; with_reducible rfl); (· rfl); (· intro vs; rfl); simp only [Act.put, List.setIfInBounds_toArray, List.set_cons_zero, List.set_cons_succ, Nat.reduceAdd])
        iterate 2 (apply Rg.RK.ok; (· intro vs w1 hS; go_simp; with_reducible rfl); (· rfl); simp only [Act.put, List.setIfInBounds_toArray, List.set_cons_zero, List.set_cons_succ, Nat.reduceAdd])
        apply Rg.RK.gcall (t := 124) (.bool true) []
        · rfl
        · intro vs; rfl
        · intro vs w1 hK hS _ K hKK
          go_simp
          refine (awake11_any w1).mono ?_
          rintro e w2 ⟨rfl, hu2⟩
          exact hKK.out _ hu2
        simp only [Act.put, List.setIfInBounds_toArray, List.set_cons_zero, List.set_cons_succ, Nat.reduceAdd]
        iterate 2 (apply Rg.RK.ok; (· intro vs w1 hS; go_simp; with_reducible rfl); (· rfl); simp only [Act.put, List.setIfInBounds_toArray, List.set_cons_zero, List.set_cons_succ, Nat.reduceAdd])
        apply Rg.RK.fin []
        intro vs w1 hK hS _
        refine hQN.out _ _ ?_
        clear hQN
        go_wp2_with fail
        go_ret
        exact ⟨rfl, (hup2.trans hu8).trans (keeps_up hK)⟩
      · kernel_rfl
    · obtain ⟨rfl, rfl, h9⟩ := hbad.out hE
      have hy0 : yn = 0 := HYL.out
      subst hy0
      have c0 : ((E : Int) != 0) = true := by simp; omega
      clear hgood hbad hY HYL hE HBLX
      rw [← hblx] at h9
      clear hblx
      rcases h9 with rfl | ⟨rfl, h9⟩
      · go_wp2_with fail
        refine (awake11_any w8).mono ?_
        rintro e w10 ⟨rfl, hu10⟩
        go_wp2_with fail
        go_ret
        exact ⟨rfl, hup8.trans hu10⟩
      · rcases (by omega : at0 < 0 ∨ (¬ at0 < 0 ∧ ((n : Nat) : Int) < at0)) with h0 | ⟨h0, h2⟩
        · go_wp2_with fail
          refine (awake11_any w8).mono ?_
          rintro e w10 ⟨rfl, hu10⟩
          go_wp2_with fail
          go_ret
          exact ⟨rfl, hup8.trans hu10⟩
        · go_wp2_with fail
          refine (awake11_any w8).mono ?_
          rintro e w10 ⟨rfl, hu10⟩
          go_wp2_with fail
          go_ret
          exact ⟨rfl, hup8.trans hu10⟩
  have hzi : (0 : Int) < (rn : Int) := by omega
  have hbe : bErr q = 0 := HMAY.out (by have := HQL.out; omega) (by have := HQL.out; omega)
  have hrn : rn ≤ 100 := by omega
  obtain ⟨C1, hC, hC2⟩ := i64_and_le to 65535 (by omega)
  replace hC : bits .and .i64 to 65535 = (C1 : Int) := hC
  obtain ⟨D1, hD, hD2⟩ := i64_and_le cut 255 (by omega)
  replace hD : bits .and .i64 cut 255 = (D1 : Int) := hD
  go_wp2_with fail
  refine (rblock_any R rn rc q w2 hq hrn).mono ?_
  rintro e w5 ⟨rfl, hu5⟩
  have hdl := itemsB_blk q (bErr_ok hbe).1
  have hfl := frameB_len 2 (itemsB q)
  generalize frameB 2 (itemsB q) = F1 at *
  generalize (itemsB q).length = dN at *
  have hbB5 := hbB.up hu5
  have hup5 := hup2.trans hu5
  clear hq hup2 hu5 hbe hz hbB HMAY HQL
  obtain ⟨c6, w6, hconv, hcap, hbeg, hu6⟩ := conv_begc w5 F1
  obtain ⟨m, hmL⟩ : ∃ m, m = F1.length := ⟨_, rfl⟩
  rw [← hmL] at hconv hcap hfl
  have HTN := Lib.hid hmL
  have hge0 := hup5.size
  generalize hge5 : w5.heap.size = g5 at hconv hbeg
  have hg5w : w5.heap.size ≤ g5 := Nat.le_of_eq hge5
  clear hmL hge5
  have hm1 : 1 ≤ m := by omega
  have hm2 : m ≤ 50012 := by omega
  clear hfl hdl
  obtain ⟨I, hI, hIm⟩ : ∃ I : Nat, (C1 : Int) % (m : Int) = (I : Int) ∧ I < m := ⟨C1 % m, by rw [Int.natCast_emod], Nat.mod_lt C1 (by omega)⟩
  have hm0 : ¬ ((m : Int) = 0) := by omega
  have hIi : (I : Int) < (m : Int) := by omega
  obtain ⟨P, hP, hPm⟩ : ∃ P : Nat, (D1 : Int) % ((m : Int) + 1) = (P : Int) ∧ P ≤ m := ⟨D1 % (m + 1), (by rw [Int.natCast_emod]; rfl), by have := Nat.mod_lt D1 (show 0 < m + 1 by omega); omega⟩
  have hP0 : ¬ ((m : Int) + 1 = 0) := by omega
  have hIT : I < F1.length := by rw [← HTN.out]; omega
  obtain ⟨y, hy⟩ := xor_byteX ((F1.getD I 0).toNat : Int) by0
  have hc8 : w6.cell? ⟨g5, I, none⟩ = some (.int .u8 ((F1.getD I 0).toNat : Int)) := hbeg.beg.cell hIT
  have hf8 := hbeg.beg.free hIT
  have hbeg2 := hbeg.set hIT y
  have hlen2 : (F1.set I y).length = m := by rw [List.length_set, ← HTN.out]
  have hK8 : Rg.Keeps (fun x => x = g5) w6 (w6.setCell ⟨g5, I, none⟩ (bv y)) := setc_keeps w6 w6 g5 I _ (Rg.Keeps.refl _ _)
  have hu8 : Up w5 (w6.setCell ⟨g5, I, none⟩ (bv y)) := keepsUpX hu6 hg5w hK8
  have hbv : bv y = .int .u8 (y.toNat : Int) := rfl
  rw [hbv] at hbeg2 hu8
  have hrdc := hbeg2.beg.rd
  rw [hlen2] at hrdc
  have hkP : m - P ≤ m := by omega
  have hrdk := hrdc.bto hkP
  generalize F1.getD I 0 = t0 at *
  generalize (F1.set I y).take (m - P) = T2 at *
  have hb9 := hbB5.up hu8
  clear hbeg hK8 hlen2 hbeg2 hrdc hbB5
  have e9 : ((m : Int) - (P : Int)).toNat = m - P := by omega
  have SZ : (w6.setCell ⟨g5, I, none⟩ (.int .u8 (y.toNat : Int))).heap.size = w6.heap.size := by simp
  obtain ⟨w7, hw7⟩ : ∃ w7, w7 = w6.setCell ⟨g5, I, none⟩ (.int .u8 (y.toNat : Int)) := ⟨_, rfl⟩
  rw [← hw7] at hu8 hrdk hb9 SZ
  have HW7 := Lib.hid hw7
  clear hw7
  go_wp2_with (first
    | (at_builtin; rw [← HW7.out, ← SZ]; refine wpList_append_rd _ bytesT (row_new w7 #[] 5 (base := w7.heap.size) (sz := 1) (n := 0) (Nat.le_refl _) rfl (by omega)) (hb9.up ((Up.refl _).alloc _)) (bvs_one _) (by omega) (by omega) (by simp) rfl rfl rfl rfl ?_; intro v4 w4 hown4 hg4 hat4; obtain ⟨A4, c4, rfl⟩ := own_form hown4; simp only [Nat.zero_add, List.nil_append] at hown4)
    | (at_builtin; refine wpList_append_rd _ bytesT hown4 (hrdk.up (((Up.refl w7).alloc _).grown hg4 (fun g hg => ((row_new w7 #[] 5 (base := w7.heap.size) (sz := 1) (n := 0) (Nat.le_refl _) rfl (by omega)).lt g hg).1))) (bvs_one _) (by omega) (by omega) (by have := hg4.size; simp at this; omega) rfl rfl rfl rfl ?_; intro v9 w9 hown9 hg9 hat9; obtain ⟨A9, c9, rfl⟩ := own_form hown9))
  have hu4 : Up w7 w4 := ((Up.refl w7).alloc _).grown hg4 (fun g hg => ((row_new w7 #[] 5 (base := w7.heap.size) (sz := 1) (n := 0) (Nat.le_refl _) rfl (by omega)).lt g hg).1)
  have hu9 : Up w7 w9 := hu4.grown hg9 (fun g hg => (hown4.lt g hg).1)
  rw [← bvs_append] at hown9
  have hc9 := own_cap hown9
  have hr9 := Rd.own hown9
  have hup9 := (hup5.trans hu8).trans hu9
  have hD9 : n + (m - P) ≤ 60000 := by omega
  generalize bs ++ T2 = T9 at *
  generalize n + (m - P) = D9 at *
  clear hg4 hg9 hat4 hat9 hown4 hown9 hb9 hrdk hu8 hu4 hu9 HW7 SZ hc8 hf8 hconv hI hIm hm0 hIi hP hPm hP0 hIT hy hbv hkP e9 HTN hC hD hu6 hcap hm1 hm2 hge0 hg5w hup5
  have hrx := hr9
  have hblx := hrx.blen
  obtain ⟨E, ql, nx, hT⟩ : ∃ a b c, takeB (T9) at0 = (a, b, c) := ⟨_, _, _, rfl⟩
  have hbad := Lib.hid (fun h => takeB_no hT h)
  have hgood := Lib.hid (fun (h : E = 0) => takeB_canon (l := T9) (at_ := at0) (q := ql) (n := nx) (by rw [hT, h]))
  have HT := Lib.hid hT
  have HBLX := Lib.hid hblx
  clear hT hblx
  (try go_wp2_with fail)
  refine (btake_any (A9) (D9) (c9) (T9) at0 w9 hrx (by omega) (by omega)).mono ?_
  rintro e w8 ⟨Y, yn, yc, rfl, hY, hyc, hu8⟩
  rw [HT.out] at hY ⊢
  (try dsimp only at hY ⊢)
  have hyl := hY.ilen
  have HYL := Lib.hid hyl
  have hup8 := hup9.trans hu8
  clear hyl HT
  have hblx := HBLX.out
  by_cases hE : E = 0
  · obtain ⟨p, mm, hp, hm, hpm, hml, hbe, hfr⟩ := hgood.out hE
    subst hE; subst hp; subst hm
    have hq3 := (bErr_ok hbe).1
    have hr2 := ((hrx.bfrom (k := p) (cap := c9) (by omega) (by omega)).bto (k := mm - p) (by omega)).up hu8
    rw [hfr] at hr2
    have HBE := Lib.hid hbe
    have CUT := fun W => cut_lh_b W (A9) (D9) (c9) .i64 .i64 (p : Int) (mm : Int) (by omega) (by omega) (by omega)
    simp only [Int.toNat_natCast] at CUT
    have d3 : decide (p < mm) = true := by simp; omega
    have d2 : decide (mm ≤ D9) = true := by simp; omega
    have s2 := tx_beq (rfl : frameB 2 (itemsB ql) = frameB 2 (itemsB ql))
    have hyn : yn ≤ 100 := by have := HYL.out; omega
    generalize cutA (A9) (c9) p 1 = A2 at *
    have HPM := Lib.hid hpm
    have HML := Lib.hid hml
    clear hbad hgood hbe hfr hrx hup8 hblx hpm hml
    go_wp2_with fail
    apply Rg.region_up (fun W => Up w8 W) (by kernel_rfl) (by kernel_rfl) (fun _ h => h)
    · intro QN hQN
      iterate 4 (apply Rg.RK.ok; (· intro vs w1 hS; go_simp; with_reducible rfl); (· rfl); simp only [Act.put, List.setIfInBounds_toArray, List.set_cons_zero, List.set_cons_succ, Nat.reduceAdd])
      iterate 4 (apply Rg.RK.gok (t := 103); (· intro vs w1 hS; go_simp; with_reducible rfl); (· rfl); (· intro vs; rfl); simp only [Act.put, List.setIfInBounds_toArray, List.set_cons_zero, List.set_cons_succ, Nat.reduceAdd])
      iterate 2 (apply Rg.RK.ok; (· intro vs w1 hS; go_simp; with_reducible rfl); (· rfl); simp only [Act.put, List.setIfInBounds_toArray, List.set_cons_zero, List.set_cons_succ, Nat.reduceAdd])
      iterate 1 (apply Rg.RK.gok (t := 109); (· intro vs w1 hS; go_simp; with_reducible rfl); (· rfl); (· intro vs; rfl); simp only [Act.put, List.setIfInBounds_toArray, List.set_cons_zero, List.set_cons_succ, Nat.reduceAdd])
      apply Rg.RK.gcall (t := 109) (.int .i64 ((bErr ql : Nat) : Int)) []
      · rfl
      · intro vs; rfl
      · intro vs w1 hK hS _ K hKK
        go_simp
        refine (rbmay_any Y yn yc ql w1 (hY.up hS) (by omega)).mono ?_
        rintro e w2 ⟨rfl, hu2⟩
        exact hKK.out _ hu2
      simp only [Act.put, List.setIfInBounds_toArray, List.set_cons_zero, List.set_cons_succ, Nat.reduceAdd]
      rw [HBE.out]
      iterate 1 (apply Rg.RK.gok (t := 109); (· intro vs w1 hS; go_simp; with_reducible rfl); (· rfl); (· intro vs; rfl); simp only [Act.put, List.setIfInBounds_toArray, List.set_cons_zero, List.set_cons_succ, Nat.reduceAdd])
      iterate 2 (apply Rg.RK.ok; (· intro vs w1 hS; go_simp; with_reducible rfl); (· rfl); simp only [Act.put, List.setIfInBounds_toArray, List.set_cons_zero, List.set_cons_succ, Nat.reduceAdd])
      iterate 4 (apply Rg.RK.gok (t := 114); (· intro vs w1 hS; go_simp; with_reducible rfl); (· rfl); (· intro vs; rfl); simp only [Act.put, List.setIfInBounds_toArray, List.set_cons_zero, List.set_cons_succ, Nat.reduceAdd])
      apply Rg.RK.gok (t := 114) (v := .string (tx (frameB 2 (itemsB ql))))
      · intro vs w1 hS
        exact exec_str rfl rfl (hr2.up hS)
      · rfl
      · intro vs; rfl
      simp only [Act.put, List.setIfInBounds_toArray, List.set_cons_zero, List.set_cons_succ, Nat.reduceAdd]
      iterate 1 (apply Rg.RK.gok (t := 114); (· intro vs w1 hS; go_simp; with_reducible rfl); (· rfl); (· intro vs; rfl); simp only [Act.put, List.setIfInBounds_toArray, List.set_cons_zero, List.set_cons_succ, Nat.reduceAdd])
      apply Rg.RK.gcall (t := 114) (.string (tx (frameB 2 (itemsB ql)))) []
      · rfl
      · intro vs; rfl
      · intro vs w1 hK hS _ K hKK
        go_simp
        refine (rblock_any Y yn yc ql w1 (hY.up hS) hyn).mono ?_
        rintro e w2 ⟨rfl, hu2⟩
        exact hKK.out _ hu2
      simp only [Act.put, List.setIfInBounds_toArray, List.set_cons_zero, List.set_cons_succ, Nat.reduceAdd]
      iterate 1 (apply Rg.RK.gok (t := 114); (· intro vs w1 hS; go_simp; with_reducible rfl); (· rfl); (· intro vs; rfl); simp only [Act.put, List.setIfInBounds_toArray, List.set_cons_zero, List.set_cons_succ, Nat.reduceAdd])
      iterate 2 (apply Rg.RK.ok; (· intro vs w1 hS; go_simp; with_reducible rfl); (· rfl); simp only [Act.put, List.setIfInBounds_toArray, List.set_cons_zero, List.set_cons_succ, Nat.reduceAdd])
      apply Rg.RK.gcall (t := 124) (.bool true) []
      · rfl
      · intro vs; rfl
      · intro vs w1 hK hS _ K hKK
        go_simp
        refine (awake11_any w1).mono ?_
        rintro e w2 ⟨rfl, hu2⟩
        exact hKK.out _ hu2
      simp only [Act.put, List.setIfInBounds_toArray, List.set_cons_zero, List.set_cons_succ, Nat.reduceAdd]
      iterate 2 (apply Rg.RK.ok; (· intro vs w1 hS; go_simp; with_reducible rfl); (· rfl); simp only [Act.put, List.setIfInBounds_toArray, List.set_cons_zero, List.set_cons_succ, Nat.reduceAdd])
      apply Rg.RK.fin []
      intro vs w1 hK hS _
      refine hQN.out _ _ ?_
      clear hQN
      go_wp2_with fail
      go_ret
      exact ⟨rfl, (hup9.trans hu8).trans (keeps_up hK)⟩
    · kernel_rfl
  · obtain ⟨rfl, rfl, h9⟩ := hbad.out hE
    have hy0 : yn = 0 := HYL.out
    subst hy0
    have c0 : ((E : Int) != 0) = true := by simp; omega
    clear hgood hbad hY HYL hE HBLX
    rw [← hblx] at h9
    clear hblx
    rcases h9 with rfl | ⟨rfl, h9⟩
    · go_wp2_with fail
      refine (awake11_any w8).mono ?_
      rintro e w10 ⟨rfl, hu10⟩
      go_wp2_with fail
      go_ret
      exact ⟨rfl, hup8.trans hu10⟩
    · rcases (by omega : at0 < 0 ∨ (¬ at0 < 0 ∧ ((D9 : Nat) : Int) < at0)) with h0 | ⟨h0, h2⟩
      · go_wp2_with fail
        refine (awake11_any w8).mono ?_
        rintro e w10 ⟨rfl, hu10⟩
        go_wp2_with fail
        go_ret
        exact ⟨rfl, hup8.trans hu10⟩
      · go_wp2_with fail
        refine (awake11_any w8).mono ?_
        rintro e w10 ⟨rfl, hu10⟩
        go_wp2_with fail
        go_ret
        exact ⟨rfl, hup8.trans hu10⟩
end Go.Proofs.Ytijekbeofpaojaa.blockRaw

/-
  'clepsydra/clepsydralaw11.BlockRaw': for every input the law returns true; each argument reads behind the call as it read before. No condition.
-/
namespace Go.Proofs.Ytijekbeofpaojaa.blockRaw
open Go.ChangeShapes Go.WideShapes Go.ChangeAt Go.RowKit
open Go.ChangeMaps (open_string shut_string)
set_option linter.unusedVariables false

set_option maxRecDepth 100000 in
theorem lifted (os : Os) (started : os.Started) (H : Type) (enc : TypeId × Value → H) :
    ReturnsInHanded {} Try.checked os 6 .any (Rows.blockRawSpec.pre6 enc Try.prog Try.f6 Rows.blockRawRow.domain false) (Rows.blockRawSpec.post enc Try.prog Try.f6 false true false false) := by
  refine returnsInHanded_of_change_sized (C := Try.checked) prog_own started (by kernel_rfl) Try.func6
    (ChangeSpec.witness6 (enc := enc) (C := Try.checked) false ⟨#[], #[.slice none 0 0, .int .i64 0, .slice none 0 0, .int .i64 0, .int .u8 0, .int .i64 0], []⟩ 8 (by kernel_rfl) (by kernel_rfl) (by kernel_rfl) (by kernel_rfl)) ?_
  intro W base args ds gs before hval0 hW hcnd hsz0 _
  have hval : ∀ (j : Nat) t v, Try.f6.params[j]? = some t → args[j]? = some v → Value.okWide Try.prog W .any base t v := hval0
  have hW' := hW
  obtain ⟨p, q, hA0, hV, rfl, hfz, hnd⟩ := hW
  have hA : DataW.TrodAll enc Try.prog W 0 (fun _ => true) true Try.f6.params.toList args.toList ds p := hA0
  have hsz : (DataW.weightsEach Try.prog (Try.f6.params.toList ++ Rows.blockRawSpec.plain.varTypes Try.prog) (ds ++ gs)).all (· ≤ reachBytes) = true := hsz0
  rw [Try.params6] at hA hval hsz
  obtain ⟨v0, vs0, d0, ds0, p0, q0, hargs, rfl, rfl, h0, r0⟩ := trodAll_cons hA
  obtain ⟨v1, vs1, d1, ds1, p1, q1, rfl, rfl, rfl, h1, r1⟩ := trodAll_cons r0
  obtain ⟨v2, vs2, d2, ds2, p2, q2, rfl, rfl, rfl, h2, r2⟩ := trodAll_cons r1
  obtain ⟨v3, vs3, d3, ds3, p3, q3, rfl, rfl, rfl, h3, r3⟩ := trodAll_cons r2
  obtain ⟨v4, vs4, d4, ds4, p4, q4, rfl, rfl, rfl, h4, r4⟩ := trodAll_cons r3
  obtain ⟨v5, vs5, d5, ds5, p5, q5, rfl, rfl, rfl, h5, r5⟩ := trodAll_cons r4
  obtain ⟨rfl, rfl, rfl⟩ := trodAll_nil r5
  obtain rfl : args = #[v0, v1, v2, v3, v4, v5] := by cases args; simp_all
  obtain ⟨rfl, rfl⟩ := trodVars_none hV
  obtain ⟨a0, len0, cap0, rfl⟩ := okWide_slice Try.underlying22 (hval 0 22 v0 rfl rfl)
  have k0 := h0
  have lt0 : ∀ x ∈ p0, x.block < W.heap.size := by obtain ⟨m, hm⟩ := k0; exact DataW.trod_lt m _ _ _ hm
  obtain ⟨l0, w0⟩ := is_b h0
  obtain ⟨a1, rfl, rfl, rfl, w1⟩ := open_int Try.underlying3 (hval 1 3 v1 rfl rfl) h1
  have b1 := bd_i64 w1
  obtain ⟨a2, len2, cap2, rfl⟩ := okWide_slice Try.underlying23 (hval 2 23 v2 rfl rfl)
  have k2 := h2
  have lt2 : ∀ x ∈ p2, x.block < W.heap.size := by obtain ⟨m, hm⟩ := k2; exact DataW.trod_lt m _ _ _ hm
  obtain ⟨l2, w2⟩ := is_i h2
  obtain ⟨a3, rfl, rfl, rfl, w3⟩ := open_int Try.underlying3 (hval 3 3 v3 rfl rfl) h3
  have b3 := bd_i64 w3
  obtain ⟨a4, rfl, rfl, rfl, w4⟩ := open_int Try.underlying5 (hval 4 5 v4 rfl rfl) h4
  have b4 := bd_u8 w4
  obtain ⟨a5, rfl, rfl, rfl, w5⟩ := open_int Try.underlying3 (hval 5 3 v5 rfl rfl) h5
  have b5 := bd_i64 w5
  clear hA0 hval0
  refine (law_any a0 len0 cap0 l0 a1 a2 len2 cap2 l2 a3 a4 a5 W w0 b1 (And.intro w2 (i_reach k2 hsz (j := 2) rfl rfl)) b3 b4 b5).mono fun e W' ⟨he, bel⟩ => ?_
  subst he
  exact ⟨_, rfl, _, _, _, [], _, [], hW', trodAll_mk1 (shut_bool Try.underlying4 _), (trodAll_cons_mk (Below.trod laidOut (by kernel_rfl) (of_decide_eq_true (by kernel_rfl)) k0 bel lt0) (trodAll_cons_mk (shut_int Try.underlying3 w1) (trodAll_cons_mk (Below.trod laidOut (by kernel_rfl) (of_decide_eq_true (by kernel_rfl)) k2 bel lt2) (trodAll_cons_mk (shut_int Try.underlying3 w3) (trodAll_cons_mk (shut_int Try.underlying5 w4) (trodAll_cons_mk (shut_int Try.underlying3 w5) trodAll_mk0)))))), rfl, bel.frame _, fun h => by cases h⟩

theorem proved : Rows.BlockRawSaid :=
  OpenClaim.holds_of_wide 6 Try.f6 rfl rfl rfl rfl rfl rfl rfl ⟨rfl, rfl, rfl, rfl, rfl⟩ rfl rfl rfl rfl rfl (by kernel_rfl) Try.func6 (by kernel_rfl)
    (of_decide_eq_true (by kernel_rfl)) (by unfold Func.isWrapper; first | (rw [if_pos (by decide +kernel)]; kernel_rfl) | (rw [if_neg (by decide +kernel)]; exact ⟨rfl, rfl⟩))
    (fun os started H enc _ => lifted os started H enc)
#print axioms proved
end Go.Proofs.Ytijekbeofpaojaa.blockRaw
