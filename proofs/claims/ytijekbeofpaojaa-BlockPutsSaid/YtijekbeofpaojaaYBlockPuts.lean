/-
  'clepsydra/clepsydralaw11.BlockPuts': for every input the law returns true; each argument reads behind the call as it read before. No condition.
-/
import Derived.Test.YtijekbeofpaojaaZ5
/-
  The law BlockPuts: the walk.
-/
namespace Go.Proofs.Ytijekbeofpaojaa.blockPuts
open Go.RowKit
set_option linter.unusedVariables false
set_option linter.unusedSimpArgs false

theorem takeB_len {l : List UInt8} {at_ : Int} {E : Nat} {q : List It} {n : Int} (h : takeB l at_ = (E, q, n)) : q.length ≤ 100 := by
  by_cases hE : E = 0
  · rw [hE] at h
    obtain ⟨_, _, _, _, _, _, h5, _⟩ := takeB_canon h
    exact (bErr_ok h5).1
  · rw [(takeB_no h hE).1]; exact Nat.zero_le _
set_option maxRecDepth 100000 in
set_option maxHeartbeats 16000000 in
theorem law_any (B : Option Addr) (n c : Nat) (bs : List UInt8) (A : Option Addr) (an ac : Nat) (l : List It) (at0 : Int) (w : World) (h0 : IsB w B n c bs) (h1 : IsI w A an ac l) (b2 : -9223372036854775808 ≤ at0 ∧ at0 ≤ 9223372036854775807) :
    Calls Try.prog 3 #[.slice B n c, .slice A an ac, .int .i64 at0] w fun e w' => e = .returned (.bool true) ∧ Up w w' := by
  obtain ⟨hb, hnc, -⟩ := h0
  obtain ⟨ha, hac, -⟩ := h1
  by_cases c0 : 2000 < n
  · have c0i : (2000 : Int) < (n : Int) := by omega
    go_enter Try.func3, Try.ntmps3
    go_wp2_with fail
    refine (awake11_any _).mono ?_
    rintro e w4 ⟨rfl, hu4⟩
    go_wp2_with fail
    go_ret
    exact ⟨rfl, hu4⟩
  have c0i : ¬ (2000 : Int) < (n : Int) := by omega
  by_cases c1 : 150 < an
  · have c1i : (150 : Int) < (an : Int) := by omega
    go_enter Try.func3, Try.ntmps3
    go_wp2_with fail
    refine (awake11_any _).mono ?_
    rintro e w4 ⟨rfl, hu4⟩
    go_wp2_with fail
    go_ret
    exact ⟨rfl, hu4⟩
  have c1i : ¬ (150 : Int) < (an : Int) := by omega
  go_enter Try.func3, Try.ntmps3
  go_wp2_with fail
  refine (one11_any A an ac l w ha hac (by omega)).mono ?_
  intro e w1 ho
  obtain ⟨V, vm, vc, rfl, hu1, hR⟩ := rowsQ_any A an l w w1 ha (by omega) ho
  clear ho
  go_wp2_with fail
  refine hR.mono ?_
  rintro e w2 ⟨R, rn, rc, rfl, hown, hu2⟩
  have hup2 := hu1.trans hu2
  have hq := Rd.own hown
  have hqn : rn ≤ 150 := by
    have h1 := hq.ilen
    have h2 := qL_len l
    have h3 := ha.ilen
    omega
  have han : an ≤ 150 := by omega
  generalize qL l = q at *
  have hbB := hb.up hup2
  have haB := ha.up hup2
  clear hR hown hu1 hu2 hb ha
  go_wp2_with fail
  go_loopw [8] (fun i wr => ∃ t : Nat, i = .int .i64 (t : Int) ∧ t ≤ 2 ∧ Up w2 wr) (fun i _ => 2 - (intOf i).toNat)
  case atStart => exact ⟨0, rfl, by omega, Up.refl _⟩
  case round =>
    obtain ⟨t, rfl, ht, hur⟩ := hrel
    have hcases : t = 0 ∨ t = 1 ∨ t = 2 := by omega
    rcases hcases with rfl | rfl | rfl
    · have hrx := haB.up hur
      have hxle := han
      have hblx := hrx.ilen
      have HBX := Lib.hid hblx
      have hbr := hbB.up hur
      clear hblx
      go_wp2_with fail
      refine (bput_any B n c bs (A) (an) (ac) (l) wr hbr (by omega) hrx (by omega)).mono ?_
      rintro e w3 ⟨Y, yn, yc, rfl, hoY, hu3⟩
      obtain ⟨be, hbe⟩ : ∃ zq, zq = bErr (l) := ⟨_, rfl⟩
      rw [← hbe]
      have hyc := own_cap hoY
      have hrY := hoY.rd
      have hx3 := hrx.up hu3
      have HBE := Lib.hid hbe
      clear hbe hoY
      go_wp2_with fail
      refine (rbmay_any (A) (an) (ac) (l) w3 hx3 (by omega)).mono ?_
      rintro e w4 ⟨rfl, hu4⟩
      rw [← HBE.out]
      have hu34 := hu3.trans hu4
      have hup4 := hur.trans hu34
      by_cases hz : be = 0
      · subst hz
        have h0 : bErr (l) = 0 := HBE.out.symm
        have hL : blkL bs (l) = cc bs (frameB 2 (itemsB (l))) := by unfold blkL; rw [if_pos h0]; rfl
        rw [hL] at hrY
        have hyl := hrY.blen
        rw [cc_length] at hyl
        have hfl := frameB_len 2 (itemsB (l))
        have hk := bErr_ok h0
        have hdl := itemsB_blk (l) hk.1
        have hbl := hbr.blen
        have htk : takeB (cc bs (frameB 2 (itemsB (l)))) (n : Int) = (0, l, (yn : Int)) := by
          have h9 := takeB_frame bs [] h0
          rw [List.append_nil] at h9
          rw [show (n : Int) = (bs.length : Int) by omega]
          show takeB (bs ++ frameB 2 (itemsB (l))) _ = _
          rw [h9]
          have : bs.length + ((itemsB (l)).length + 12) = yn := by omega
          rw [this]
        have HTK := Lib.hid htk
        have hr4 := hrY.up hu4
        have hb4 := hbr.up hu34
        have hx4 := hx3.up hu4
        have hxn : an ≤ 100 := by have := HBX.out; omega
        have hyn : yn ≤ 100000 := by omega
        have hcl : (cc bs (frameB 2 (itemsB (l)))).length = yn := by rw [cc_length]; omega
        have HCL := Lib.hid hcl
        have HBL := Lib.hid hbl
        have HFL := Lib.hid (show (frameB 2 (itemsB (l))).length ≤ 10000 by omega)
        clear hL hyl hfl hk hdl hbl htk hrY hbr hrx hx3 h0 HBE hcl
        go_wp2_with fail
        refine (btake_any Y yn yc _ (n : Int) w4 hr4 (by omega) hyc).mono ?_
        rintro e w5 ⟨Z, zn, zc, rfl, hZ, hzc, hu5⟩
        rw [HTK.out] at hZ ⊢
        (try dsimp only at hZ ⊢)
        have hzn := hZ.ilen
        have hzn2 : zn = an := by have := HBX.out; omega
        have hr5 := hr4.up hu5
        have hb5 := hb4.up hu5
        have hx5 := hx4.up hu5
        have hup5 := hup4.trans hu5
        obtain ⟨FF, hFF⟩ : ∃ F, F = frameB 2 (itemsB (l)) := ⟨_, rfl⟩
        have hblk := fun W (h : Up w5 W) => rblock_any (A) (an) (ac) (l) W (hx5.up h) hxn
        have heq := fun W (h : Up w5 W) => requal_any Z zn zc (l) (A) (an) (ac) (l) W (hZ.up h) (hx5.up h) (by omega) (by omega)
        rw [show decide (l = l) = true by simp] at heq
        rw [← hFF] at hr5 hblk HFL HCL
        have HB2 := Lib.hid hblk
        have HEQ := Lib.hid heq
        have s2 : ((tx (cc bs FF)).toList != (tx (cc bs FF)).toList) = false := by simp
        have hzl : bs.length + FF.length ≤ 200000 := by have := HBL.out; have := HFL.out; omega
        clear hzn hzn2 hr4 hb4 hx4 hup4 hu34 hu3 hu4 hu5 HTK hFF hblk heq hxle
        go_wp2_with fail
        apply Rg.region_up (fun W => Up w5 W) (by kernel_rfl) (by kernel_rfl) (fun _ h => h)
        · intro QN hQN
          iterate 1 (apply Rg.RK.ok; (· intro vs w1 hS; go_simp; with_reducible rfl); (· rfl); simp only [Act.put, List.setIfInBounds_toArray, List.set_cons_zero, List.set_cons_succ, Nat.reduceAdd])
          apply Rg.RK.ok (v := .string (tx (cc bs FF)))
          · intro vs w1 hS
            exact exec_str rfl rfl (hr5.up hS)
          · rfl
          simp only [Act.put, List.setIfInBounds_toArray, List.set_cons_zero, List.set_cons_succ, Nat.reduceAdd]
          iterate 1 (apply Rg.RK.ok; (· intro vs w1 hS; go_simp; with_reducible rfl); (· rfl); simp only [Act.put, List.setIfInBounds_toArray, List.set_cons_zero, List.set_cons_succ, Nat.reduceAdd])
          apply Rg.RK.ok (v := .string (tx (bs)))
          · intro vs w1 hS
            exact exec_str rfl rfl (hb5.up hS)
          · rfl
          simp only [Act.put, List.setIfInBounds_toArray, List.set_cons_zero, List.set_cons_succ, Nat.reduceAdd]
          iterate 1 (apply Rg.RK.ok; (· intro vs w1 hS; go_simp; with_reducible rfl); (· rfl); simp only [Act.put, List.setIfInBounds_toArray, List.set_cons_zero, List.set_cons_succ, Nat.reduceAdd])
          apply Rg.RK.call (.string (tx FF)) []
          · rfl
          · intro vs w1 hK hS _ K hKK
            go_simp
            refine (HB2.out w1 hS).mono ?_
            rintro e w2 ⟨rfl, hu2⟩
            exact hKK.out _ hu2
          simp only [Act.put, List.setIfInBounds_toArray, List.set_cons_zero, List.set_cons_succ, Nat.reduceAdd]
          (apply Rg.RK.ok; (· intro vs w1 hS; go_simp; rw [if_neg (by simp [tx_size, cc_length]; omega), tx_append]); (· rfl); simp only [Act.put, List.setIfInBounds_toArray, List.set_cons_zero, List.set_cons_succ, Nat.reduceAdd])
          iterate 2 (apply Rg.RK.ok; (· intro vs w1 hS; go_simp; with_reducible rfl); (· rfl); simp only [Act.put, List.setIfInBounds_toArray, List.set_cons_zero, List.set_cons_succ, Nat.reduceAdd])
          iterate 2 (apply Rg.RK.gok (t := 80); (· intro vs w1 hS; go_simp; with_reducible rfl); (· rfl); (· intro vs; rfl); simp only [Act.put, List.setIfInBounds_toArray, List.set_cons_zero, List.set_cons_succ, Nat.reduceAdd])
          iterate 2 (apply Rg.RK.ok; (· intro vs w1 hS; go_simp; with_reducible rfl); (· rfl); simp only [Act.put, List.setIfInBounds_toArray, List.set_cons_zero, List.set_cons_succ, Nat.reduceAdd])
          iterate 4 (apply Rg.RK.gok (t := 84); (· intro vs w1 hS; go_simp; with_reducible rfl); (· rfl); (· intro vs; rfl); simp only [Act.put, List.setIfInBounds_toArray, List.set_cons_zero, List.set_cons_succ, Nat.reduceAdd])
          iterate 2 (apply Rg.RK.ok; (· intro vs w1 hS; go_simp; with_reducible rfl); (· rfl); simp only [Act.put, List.setIfInBounds_toArray, List.set_cons_zero, List.set_cons_succ, Nat.reduceAdd])
          iterate 2 (apply Rg.RK.gok (t := 90); (· intro vs w1 hS; go_simp; with_reducible rfl); (· rfl); (· intro vs; rfl); simp only [Act.put, List.setIfInBounds_toArray, List.set_cons_zero, List.set_cons_succ, Nat.reduceAdd])
          apply Rg.RK.gcall (t := 90) (.bool true) []
          · rfl
          · intro vs; rfl
          · intro vs w1 hK hS _ K hKK
            go_simp
            refine (HEQ.out w1 hS).mono ?_
            rintro e w2 ⟨rfl, hu2⟩
            exact hKK.out _ hu2
          simp only [Act.put, List.setIfInBounds_toArray, List.set_cons_zero, List.set_cons_succ, Nat.reduceAdd]
          iterate 1 (apply Rg.RK.gok (t := 90); (· intro vs w1 hS; go_simp; with_reducible rfl); (· rfl); (· intro vs; rfl); simp only [Act.put, List.setIfInBounds_toArray, List.set_cons_zero, List.set_cons_succ, Nat.reduceAdd])
          iterate 1 (apply Rg.RK.ok; (· intro vs w1 hS; go_simp; with_reducible rfl); (· rfl); simp only [Act.put, List.setIfInBounds_toArray, List.set_cons_zero, List.set_cons_succ, Nat.reduceAdd])
          apply Rg.RK.fin []
          intro vs w1 hK hS _
          refine hQN.out _ _ ?_
          clear hQN
          have hup9 := hup5.trans (keeps_up hK)
          go_wp2_with fail
          go_roundw
          case rel => exact ⟨1, by go_num, by omega, hup9⟩
          case measure => simp [intOf]
        · kernel_rfl
      · have hL : blkL bs (l) = [] := by unfold blkL; rw [if_neg (by rw [← HBE.out]; exact hz)]
        rw [hL] at hrY
        have hy0 : yn = 0 := hrY.blen
        subst hy0
        have c2 : ((be : Int) != 0) = true := by simp; omega
        have c3 : ((be : Int) != (be : Int)) = false := by simp
        clear hL hrY HBE
        go_wp2_with fail
        go_roundw
        case rel => exact ⟨1, by go_num, by omega, hup4⟩
        case measure => simp [intOf]
    · have hrx := hq.up hur
      have hxle := hqn
      have hblx := hrx.ilen
      have HBX := Lib.hid hblx
      have hbr := hbB.up hur
      clear hblx
      go_wp2_with fail
      refine (bput_any B n c bs (R) (rn) (rc) (q) wr hbr (by omega) hrx (by omega)).mono ?_
      rintro e w3 ⟨Y, yn, yc, rfl, hoY, hu3⟩
      obtain ⟨be, hbe⟩ : ∃ zq, zq = bErr (q) := ⟨_, rfl⟩
      rw [← hbe]
      have hyc := own_cap hoY
      have hrY := hoY.rd
      have hx3 := hrx.up hu3
      have HBE := Lib.hid hbe
      clear hbe hoY
      go_wp2_with fail
      refine (rbmay_any (R) (rn) (rc) (q) w3 hx3 (by omega)).mono ?_
      rintro e w4 ⟨rfl, hu4⟩
      rw [← HBE.out]
      have hu34 := hu3.trans hu4
      have hup4 := hur.trans hu34
      by_cases hz : be = 0
      · subst hz
        have h0 : bErr (q) = 0 := HBE.out.symm
        have hL : blkL bs (q) = cc bs (frameB 2 (itemsB (q))) := by unfold blkL; rw [if_pos h0]; rfl
        rw [hL] at hrY
        have hyl := hrY.blen
        rw [cc_length] at hyl
        have hfl := frameB_len 2 (itemsB (q))
        have hk := bErr_ok h0
        have hdl := itemsB_blk (q) hk.1
        have hbl := hbr.blen
        have htk : takeB (cc bs (frameB 2 (itemsB (q)))) (n : Int) = (0, q, (yn : Int)) := by
          have h9 := takeB_frame bs [] h0
          rw [List.append_nil] at h9
          rw [show (n : Int) = (bs.length : Int) by omega]
          show takeB (bs ++ frameB 2 (itemsB (q))) _ = _
          rw [h9]
          have : bs.length + ((itemsB (q)).length + 12) = yn := by omega
          rw [this]
        have HTK := Lib.hid htk
        have hr4 := hrY.up hu4
        have hb4 := hbr.up hu34
        have hx4 := hx3.up hu4
        have hxn : rn ≤ 100 := by have := HBX.out; omega
        have hyn : yn ≤ 100000 := by omega
        have hcl : (cc bs (frameB 2 (itemsB (q)))).length = yn := by rw [cc_length]; omega
        have HCL := Lib.hid hcl
        have HBL := Lib.hid hbl
        have HFL := Lib.hid (show (frameB 2 (itemsB (q))).length ≤ 10000 by omega)
        clear hL hyl hfl hk hdl hbl htk hrY hbr hrx hx3 h0 HBE hcl
        go_wp2_with fail
        refine (btake_any Y yn yc _ (n : Int) w4 hr4 (by omega) hyc).mono ?_
        rintro e w5 ⟨Z, zn, zc, rfl, hZ, hzc, hu5⟩
        rw [HTK.out] at hZ ⊢
        (try dsimp only at hZ ⊢)
        have hzn := hZ.ilen
        have hzn2 : zn = rn := by have := HBX.out; omega
        have hr5 := hr4.up hu5
        have hb5 := hb4.up hu5
        have hx5 := hx4.up hu5
        have hup5 := hup4.trans hu5
        obtain ⟨FF, hFF⟩ : ∃ F, F = frameB 2 (itemsB (q)) := ⟨_, rfl⟩
        have hblk := fun W (h : Up w5 W) => rblock_any (R) (rn) (rc) (q) W (hx5.up h) hxn
        have heq := fun W (h : Up w5 W) => requal_any Z zn zc (q) (R) (rn) (rc) (q) W (hZ.up h) (hx5.up h) (by omega) (by omega)
        rw [show decide (q = q) = true by simp] at heq
        rw [← hFF] at hr5 hblk HFL HCL
        have HB2 := Lib.hid hblk
        have HEQ := Lib.hid heq
        have s2 : ((tx (cc bs FF)).toList != (tx (cc bs FF)).toList) = false := by simp
        have hzl : bs.length + FF.length ≤ 200000 := by have := HBL.out; have := HFL.out; omega
        clear hzn hzn2 hr4 hb4 hx4 hup4 hu34 hu3 hu4 hu5 HTK hFF hblk heq hxle
        go_wp2_with fail
        apply Rg.region_up (fun W => Up w5 W) (by kernel_rfl) (by kernel_rfl) (fun _ h => h)
        · intro QN hQN
          iterate 1 (apply Rg.RK.ok; (· intro vs w1 hS; go_simp; with_reducible rfl); (· rfl); simp only [Act.put, List.setIfInBounds_toArray, List.set_cons_zero, List.set_cons_succ, Nat.reduceAdd])
          apply Rg.RK.ok (v := .string (tx (cc bs FF)))
          · intro vs w1 hS
            exact exec_str rfl rfl (hr5.up hS)
          · rfl
          simp only [Act.put, List.setIfInBounds_toArray, List.set_cons_zero, List.set_cons_succ, Nat.reduceAdd]
          iterate 1 (apply Rg.RK.ok; (· intro vs w1 hS; go_simp; with_reducible rfl); (· rfl); simp only [Act.put, List.setIfInBounds_toArray, List.set_cons_zero, List.set_cons_succ, Nat.reduceAdd])
          apply Rg.RK.ok (v := .string (tx (bs)))
          · intro vs w1 hS
            exact exec_str rfl rfl (hb5.up hS)
          · rfl
          simp only [Act.put, List.setIfInBounds_toArray, List.set_cons_zero, List.set_cons_succ, Nat.reduceAdd]
          iterate 1 (apply Rg.RK.ok; (· intro vs w1 hS; go_simp; with_reducible rfl); (· rfl); simp only [Act.put, List.setIfInBounds_toArray, List.set_cons_zero, List.set_cons_succ, Nat.reduceAdd])
          apply Rg.RK.call (.string (tx FF)) []
          · rfl
          · intro vs w1 hK hS _ K hKK
            go_simp
            refine (HB2.out w1 hS).mono ?_
            rintro e w2 ⟨rfl, hu2⟩
            exact hKK.out _ hu2
          simp only [Act.put, List.setIfInBounds_toArray, List.set_cons_zero, List.set_cons_succ, Nat.reduceAdd]
          (apply Rg.RK.ok; (· intro vs w1 hS; go_simp; rw [if_neg (by simp [tx_size, cc_length]; omega), tx_append]); (· rfl); simp only [Act.put, List.setIfInBounds_toArray, List.set_cons_zero, List.set_cons_succ, Nat.reduceAdd])
          iterate 2 (apply Rg.RK.ok; (· intro vs w1 hS; go_simp; with_reducible rfl); (· rfl); simp only [Act.put, List.setIfInBounds_toArray, List.set_cons_zero, List.set_cons_succ, Nat.reduceAdd])
          iterate 2 (apply Rg.RK.gok (t := 80); (· intro vs w1 hS; go_simp; with_reducible rfl); (· rfl); (· intro vs; rfl); simp only [Act.put, List.setIfInBounds_toArray, List.set_cons_zero, List.set_cons_succ, Nat.reduceAdd])
          iterate 2 (apply Rg.RK.ok; (· intro vs w1 hS; go_simp; with_reducible rfl); (· rfl); simp only [Act.put, List.setIfInBounds_toArray, List.set_cons_zero, List.set_cons_succ, Nat.reduceAdd])
          iterate 4 (apply Rg.RK.gok (t := 84); (· intro vs w1 hS; go_simp; with_reducible rfl); (· rfl); (· intro vs; rfl); simp only [Act.put, List.setIfInBounds_toArray, List.set_cons_zero, List.set_cons_succ, Nat.reduceAdd])
          iterate 2 (apply Rg.RK.ok; (· intro vs w1 hS; go_simp; with_reducible rfl); (· rfl); simp only [Act.put, List.setIfInBounds_toArray, List.set_cons_zero, List.set_cons_succ, Nat.reduceAdd])
          iterate 2 (apply Rg.RK.gok (t := 90); (· intro vs w1 hS; go_simp; with_reducible rfl); (· rfl); (· intro vs; rfl); simp only [Act.put, List.setIfInBounds_toArray, List.set_cons_zero, List.set_cons_succ, Nat.reduceAdd])
          apply Rg.RK.gcall (t := 90) (.bool true) []
          · rfl
          · intro vs; rfl
          · intro vs w1 hK hS _ K hKK
            go_simp
            refine (HEQ.out w1 hS).mono ?_
            rintro e w2 ⟨rfl, hu2⟩
            exact hKK.out _ hu2
          simp only [Act.put, List.setIfInBounds_toArray, List.set_cons_zero, List.set_cons_succ, Nat.reduceAdd]
          iterate 1 (apply Rg.RK.gok (t := 90); (· intro vs w1 hS; go_simp; with_reducible rfl); (· rfl); (· intro vs; rfl); simp only [Act.put, List.setIfInBounds_toArray, List.set_cons_zero, List.set_cons_succ, Nat.reduceAdd])
          iterate 1 (apply Rg.RK.ok; (· intro vs w1 hS; go_simp; with_reducible rfl); (· rfl); simp only [Act.put, List.setIfInBounds_toArray, List.set_cons_zero, List.set_cons_succ, Nat.reduceAdd])
          apply Rg.RK.fin []
          intro vs w1 hK hS _
          refine hQN.out _ _ ?_
          clear hQN
          have hup9 := hup5.trans (keeps_up hK)
          go_wp2_with fail
          go_roundw
          case rel => exact ⟨2, by go_num, by omega, hup9⟩
          case measure => simp [intOf]
        · kernel_rfl
      · have hL : blkL bs (q) = [] := by unfold blkL; rw [if_neg (by rw [← HBE.out]; exact hz)]
        rw [hL] at hrY
        have hy0 : yn = 0 := hrY.blen
        subst hy0
        have c2 : ((be : Int) != 0) = true := by simp; omega
        have c3 : ((be : Int) != (be : Int)) = false := by simp
        clear hL hrY HBE
        go_wp2_with fail
        go_roundw
        case rel => exact ⟨2, by go_num, by omega, hup4⟩
        case measure => simp [intOf]
    · have hbr := hbB.up hur
      have hup := hup2.trans hur
      obtain ⟨E, ql, nx, hT⟩ : ∃ a b c, takeB bs at0 = (a, b, c) := ⟨_, _, _, rfl⟩
      have hql := takeB_len hT
      have HT := Lib.hid hT
      clear hT hbB haB hq
      go_wp2_with fail
      refine (btake_any B n c bs at0 wr hbr (by omega) hnc).mono ?_
      rintro e w3 ⟨Y, yn, yc, rfl, hY, hyc, hu3⟩
      rw [HT.out] at hY ⊢
      (try dsimp only at hY ⊢)
      have hb3 := hbr.up hu3
      have hcv : (convert 22 9 (.slice B n c)).run Try.prog w3 = .ok (.string (tx bs)) _ := run_str c hb3
      have hbl : bs.length ≤ 2000 := by have := hb3.blen; omega
      go_wp2_with fail
      refine (ltake_any bs at0 w3 (by omega)).mono ?_
      rintro e w4 ⟨Z, zn, zc, rfl, hZ, hzc, hu4⟩
      rw [HT.out] at hZ ⊢
      (try dsimp only at hZ ⊢)
      have hY4 := hY.up hu4
      have hyn := hY.ilen
      have hzn := hZ.ilen
      have hyb : yn ≤ 100 := by omega
      have hzb : zn ≤ 100 := by omega
      have hup4 := (hup.trans hu3).trans hu4
      have e1 : ((E : Int) == (E : Int)) = true := by simp
      have e2 : (nx == nx) = true := by simp
      clear hyn hzn hY hcv hbl hb3 hbr HT
      go_wp2_with fail
      refine (requal_any Y yn yc ql Z zn zc ql w4 hY4 hZ (by omega) (by omega)).mono ?_
      rintro e w5 ⟨rfl, hu5⟩
      rw [show decide (ql = ql) = true by simp]
      go_wp2_with fail
      refine (awake11_any w5).mono ?_
      rintro e w6 ⟨rfl, hu6⟩
      go_wp2_with fail
      go_ret
      exact ⟨rfl, (hup4.trans hu5).trans hu6⟩
end Go.Proofs.Ytijekbeofpaojaa.blockPuts

/-
  'clepsydra/clepsydralaw11.BlockPuts': for every input the law returns true; each argument reads behind the call as it read before. No condition.
-/
namespace Go.Proofs.Ytijekbeofpaojaa.blockPuts
open Go.ChangeShapes Go.WideShapes Go.ChangeAt Go.RowKit
open Go.ChangeMaps (open_string shut_string)
set_option linter.unusedVariables false

set_option maxRecDepth 100000 in
theorem lifted (os : Os) (started : os.Started) (H : Type) (enc : TypeId × Value → H) :
    ReturnsInHanded {} Try.checked os 3 .any (Rows.blockPutsSpec.pre6 enc Try.prog Try.f3 Rows.blockPutsRow.domain false) (Rows.blockPutsSpec.post enc Try.prog Try.f3 false true false false) := by
  refine returnsInHanded_of_change (C := Try.checked) prog_own started (by kernel_rfl) Try.func3
    (ChangeSpec.witness6 (enc := enc) (C := Try.checked) false ⟨#[], #[.slice none 0 0, .slice none 0 0, .int .i64 0], []⟩ 8 (by kernel_rfl) (by kernel_rfl) (by kernel_rfl) (by kernel_rfl)) ?_
  intro W base args ds gs before hval0 hW hcnd _
  have hval : ∀ (j : Nat) t v, Try.f3.params[j]? = some t → args[j]? = some v → Value.okWide Try.prog W .any base t v := hval0
  have hW' := hW
  obtain ⟨p, q, hA0, hV, rfl, hfz, hnd⟩ := hW
  have hA : DataW.TrodAll enc Try.prog W 0 (fun _ => true) true Try.f3.params.toList args.toList ds p := hA0
  rw [Try.params3] at hA hval
  obtain ⟨v0, vs0, d0, ds0, p0, q0, hargs, rfl, rfl, h0, r0⟩ := trodAll_cons hA
  obtain ⟨v1, vs1, d1, ds1, p1, q1, rfl, rfl, rfl, h1, r1⟩ := trodAll_cons r0
  obtain ⟨v2, vs2, d2, ds2, p2, q2, rfl, rfl, rfl, h2, r2⟩ := trodAll_cons r1
  obtain ⟨rfl, rfl, rfl⟩ := trodAll_nil r2
  obtain rfl : args = #[v0, v1, v2] := by cases args; simp_all
  obtain ⟨rfl, rfl⟩ := trodVars_none hV
  obtain ⟨a0, len0, cap0, rfl⟩ := okWide_slice Try.underlying22 (hval 0 22 v0 rfl rfl)
  have k0 := h0
  have lt0 : ∀ x ∈ p0, x.block < W.heap.size := by obtain ⟨m, hm⟩ := k0; exact DataW.trod_lt m _ _ _ hm
  obtain ⟨l0, w0⟩ := is_b h0
  obtain ⟨a1, len1, cap1, rfl⟩ := okWide_slice Try.underlying23 (hval 1 23 v1 rfl rfl)
  have k1 := h1
  have lt1 : ∀ x ∈ p1, x.block < W.heap.size := by obtain ⟨m, hm⟩ := k1; exact DataW.trod_lt m _ _ _ hm
  obtain ⟨l1, w1⟩ := is_i h1
  obtain ⟨a2, rfl, rfl, rfl, w2⟩ := open_int Try.underlying3 (hval 2 3 v2 rfl rfl) h2
  have b2 := bd_i64 w2
  clear hA0 hval0
  refine (law_any a0 len0 cap0 l0 a1 len1 cap1 l1 a2 W w0 w1 b2).mono fun e W' ⟨he, bel⟩ => ?_
  subst he
  exact ⟨_, rfl, _, _, _, [], _, [], hW', trodAll_mk1 (shut_bool Try.underlying4 _), (trodAll_cons_mk (Below.trod laidOut (by kernel_rfl) (of_decide_eq_true (by kernel_rfl)) k0 bel lt0) (trodAll_cons_mk (Below.trod laidOut (by kernel_rfl) (of_decide_eq_true (by kernel_rfl)) k1 bel lt1) (trodAll_cons_mk (shut_int Try.underlying3 w2) trodAll_mk0))), rfl, bel.frame _, fun h => by cases h⟩

theorem proved : Rows.BlockPutsSaid :=
  OpenClaim.holds_of_wide 3 Try.f3 rfl rfl rfl rfl rfl rfl rfl ⟨rfl, rfl, rfl, rfl, rfl⟩ rfl rfl rfl rfl rfl (by kernel_rfl) Try.func3 (by kernel_rfl)
    (of_decide_eq_true (by kernel_rfl)) (by unfold Func.isWrapper; first | (rw [if_pos (by decide +kernel)]; kernel_rfl) | (rw [if_neg (by decide +kernel)]; exact ⟨rfl, rfl⟩))
    (fun os started H enc _ => lifted os started H enc)
#print axioms proved
end Go.Proofs.Ytijekbeofpaojaa.blockPuts
