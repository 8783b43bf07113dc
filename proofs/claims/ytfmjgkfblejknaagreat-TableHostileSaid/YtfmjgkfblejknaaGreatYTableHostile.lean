/-
  'clepsydra/clepsydralaw12.TableHostile': for every input the law returns true; each argument reads behind the call as it read before. No condition.
-/
import Derived.IntWalk
import Derived.Test.YtfmjgkfblejknaaGreatZ7
/-
  The law TableHostile: the walk.
-/
namespace Go.Proofs.YtfmjgkfblejknaaGreat.tableHostile
open Go.RowKit
set_option linter.unusedVariables false
set_option linter.unusedSimpArgs false

theorem xor_byteT (x y : Int) : ∃ z : UInt8, bits .xor .u8 x y = (z.toNat : Int) := by
  have h : ∃ q : Int, bits .xor .u8 x y = IntKind.u8.wrap q := ⟨_, rfl⟩
  obtain ⟨q, hq⟩ := h
  refine ⟨UInt8.ofNat (q % 256).toNat, ?_⟩
  rw [hq, IntKind.wrap_u8]
  have h0 : 0 ≤ q % 256 := by omega
  have h1 : q % 256 < 256 := by omega
  simp
  omega
set_option maxRecDepth 100000 in
set_option maxHeartbeats 16000000 in
theorem law_any (B : Option Addr) (bn bc : Nat) (bs : List UInt8) (A : Option Addr) (n c : Nat) (l : List It) (at0 by0 cut : Int) (U : Option Addr) (un uc : Nat) (us : List UInt8) (w : World) (h0 : IsB w B bn bc bs) (h1 : IsI w A n c l) (b2 : -9223372036854775808 ≤ at0 ∧ at0 ≤ 9223372036854775807)
    (b3 : 0 ≤ by0 ∧ by0 ≤ 255) (b4 : -9223372036854775808 ≤ cut ∧ cut ≤ 9223372036854775807) (h5 : IsB w U un uc us) :
    Calls Tryz.prog 3 #[.slice B bn bc, .slice A n c, .int .i64 at0, .int .u8 by0, .int .i64 cut, .slice U un uc] w fun e w' => e = .returned (.bool true) ∧ Up w w' := by
  obtain ⟨hb, hbc, -⟩ := h0
  obtain ⟨ha, hac, -⟩ := h1
  obtain ⟨hU, huc, -⟩ := h5
  by_cases c1 : 3000 < bn
  · have c1i : (3000 : Int) < (bn : Int) := by omega
    go_enter Tryz.func3, Tryz.ntmps3
    go_wp2_with fail
    refine (awake12_any w).mono ?_
    rintro e w2 ⟨rfl, hu2⟩
    go_wp2_with fail
    go_ret
    exact ⟨rfl, hu2⟩
  have c1i : ¬ (3000 : Int) < (bn : Int) := by omega
  by_cases c2 : 100 < n
  · have c2i : (100 : Int) < (n : Int) := by omega
    go_enter Tryz.func3, Tryz.ntmps3
    go_wp2_with fail
    refine (awake12_any w).mono ?_
    rintro e w2 ⟨rfl, hu2⟩
    go_wp2_with fail
    go_ret
    exact ⟨rfl, hu2⟩
  have c2i : ¬ (100 : Int) < (n : Int) := by omega
  by_cases c3 : 100 < un
  · have c3i : (100 : Int) < (un : Int) := by omega
    go_enter Tryz.func3, Tryz.ntmps3
    go_wp2_with fail
    refine (awake12_any w).mono ?_
    rintro e w2 ⟨rfl, hu2⟩
    go_wp2_with fail
    go_ret
    exact ⟨rfl, hu2⟩
  have c3i : ¬ (100 : Int) < (un : Int) := by omega
  have HRI := Lib.hid (rising12_any A n c l w ha hac (by omega))
  have hql := qL_len l
  have hll := ha.ilen
  have hq2 : (qL l).length ≤ 2000 := by omega
  have hme : makeE (qL l) = 0 := makeE_q (by omega)
  have HLL := Lib.hid hll
  clear ha hll hac
  go_enter Tryz.func3, Tryz.ntmps3
  go_wp2_with fail
  clear c1i c2i c3i
  refine HRI.out.mono ?_
  rintro e w1 ⟨R, rn, rc, rfl, hR, hu1⟩
  have HTB := Lib.hid (rtable_any R rn rc (qL l) w1 (Rd.own hR) (own_cap hR) (by have := OwnI.ilen hR; omega))
  clear hR
  go_wp2_with fail
  refine HTB.out.mono ?_
  rintro e w3 ⟨rfl, hu3⟩
  have hup3 := hu1.trans hu3
  have htl := tab_len hq2
  have htp : 12 ≤ (tabB (qL l)).length := by unfold tabB; rw [List.length_append, frameB_len]; omega
  have hrt : readT (tabB (qL l)) = some (rowsC (qL l)) := readT_tab hme
  obtain ⟨S, hS⟩ : ∃ S, S = tabB (qL l) := ⟨_, rfl⟩
  rw [← hS] at htl htp hrt ⊢
  obtain ⟨N, hN⟩ : ∃ N, N = S.length := ⟨_, rfl⟩
  rw [← hN] at htl htp
  have HN := Lib.hid hN
  have HRT : Hid (readT S ≠ none) := by show _ ≠ _; rw [hrt]; simp
  clear hS hN hrt hme hql hq2 HTB HRI HLL hu1 hu3
  obtain ⟨c5, w5, hconv, hcap, hbeg, hu5⟩ := conv_begc w3 S
  rw [← HN.out] at hconv hcap
  generalize hge5 : w3.heap.size = g5 at hconv hbeg
  have hg5w : w3.heap.size ≤ g5 := Nat.le_of_eq hge5
  clear hge5
  obtain ⟨C1, hC, hC2⟩ := i64_and_le at0 16777215 (by omega)
  replace hC : bits .and .i64 at0 16777215 = (C1 : Int) := hC
  obtain ⟨I, hI, hIm⟩ : ∃ I : Nat, (C1 : Int) % (N : Int) = (I : Int) ∧ I < N := ⟨C1 % N, by rw [Int.natCast_emod], Nat.mod_lt C1 (by omega)⟩
  have hI2 : (C1 : Int).tmod (N : Int) = (I : Int) := by rw [Int.tmod_eq_emod_of_nonneg (by omega)]; exact hI
  have hm0 : ¬ ((N : Int) = 0) := by omega
  have hm0n : ¬ N = 0 := by omega
  have hIi : (I : Int) < (N : Int) := by omega
  have hIT : I < S.length := by rw [← HN.out]; omega
  obtain ⟨y, hy⟩ := xor_byteT ((S.getD I 0).toNat : Int) by0
  have hc8 : w5.cell? ⟨g5, I, none⟩ = some (.int .u8 ((S.getD I 0).toNat : Int)) := hbeg.beg.cell hIT
  have hf8 := hbeg.beg.free hIT
  have hbeg2 := hbeg.set hIT y
  have hlen2 : (S.set I y).length = N := by rw [List.length_set, ← HN.out]
  have hK8 : Rg.Keeps (fun x => x = g5) w5 (w5.setCell ⟨g5, I, none⟩ (bv y)) := setc_keeps w5 w5 g5 I _ (Rg.Keeps.refl _ _)
  have hu8 : Up w3 (w5.setCell ⟨g5, I, none⟩ (bv y)) := keepsUpX hu5 hg5w hK8
  have hbv : bv y = .int .u8 (y.toNat : Int) := rfl
  rw [hbv] at hbeg2 hu8
  have HLN := Lib.hid hlen2
  have HU8 := Lib.hid hu8
  have HBEG := Lib.hid hbeg2
  generalize S.getD I 0 = t0 at *
  generalize S.set I y = T2 at *
  clear hbeg hK8 hlen2 hbv hu8 hbeg2 hIT
  obtain ⟨D1, hD, hD2⟩ := i64_and_le cut 65535 (by omega)
  replace hD : bits .and .i64 cut 65535 = (D1 : Int) := hD
  obtain ⟨P, hP, hPm⟩ : ∃ P : Nat, (D1 : Int) % ((N : Int) + 1) = (P : Int) ∧ P ≤ N := ⟨D1 % (N + 1), (by rw [Int.natCast_emod]; rfl), by have := Nat.mod_lt D1 (show 0 < N + 1 by omega); omega⟩
  have hP2 : (D1 : Int).tmod ((N : Int) + 1) = (P : Int) := by rw [Int.tmod_eq_emod_of_nonneg (by omega)]; exact hP
  have hP0 : ¬ ((N : Int) + 1 = 0) := by omega
  obtain ⟨Q, hQ⟩ : ∃ Q, Q = N - P := ⟨_, rfl⟩
  have hQi : (N : Int) - (P : Int) = (Q : Int) := by omega
  have hQc : (Q : Int) ≤ (c5 : Int) := by omega
  have hQ0 : (0 : Int) ≤ (Q : Int) := by omega
  have hUr := (hU.up hup3).up HU8.out
  have hkP : Q ≤ T2.length := by rw [HLN.out]; omega
  have hkU : Q + un ≤ 140737488355328 := by omega
  have HQ := Lib.hid hQ
  clear hQ
  go_wp2_with (first | (at_builtin; refine wpList_append_begc (w0 := w3) (k := Q) HBEG.out hkP hUr hkU hg5w HU8.out rfl rfl rfl rfl ?_; intro A9 c9 w9 hrd9 hcap9 hup9))
  clear hD hP hP2 hP0 hQi hQc hQ0 hkP hkU hUr
  generalize T2.take Q ++ us = T3 at *
  have hD3 : Q + un ≤ 1000000 := by have := HQ.out; omega
  generalize Q + un = D3 at *
  have hupz := hup3.trans hup9
  go_loopw [0, 15] (fun bv i wr => ∃ (x : Nat) (X : Option Addr) (xn xc : Nat) (xl : List UInt8), i = .int .i64 (x : Int) ∧ bv = .slice X xn xc ∧ x ≤ 2 ∧ xn ≤ 1000000 ∧ xn ≤ xc ∧ Rd wr wr.heap.size 1 X xn (bvs xl) ∧ Up w9 wr) (fun _ i _ => 2 - (intOf i).toNat)
  case atStart => exact ⟨0, B, bn, bc, bs, rfl, rfl, by omega, by omega, hbc, hb.up hupz, Up.refl _⟩
  case round =>
    obtain ⟨x, X, xn, xc, xl, rfl, rfl, hx2, hxn, hxc, hrdx, hu7⟩ := hrel
    have hcases : x = 0 ∨ x = 1 ∨ x = 2 := by omega
    rcases hcases with rfl | rfl | rfl
    · have hrx := hrdx
      have hxl : (xl).length ≤ 1000000 := by have := hrx.blen; omega
      have hrep := tread_any (X) (xn) (xc) (xl) wr hrx (by omega) (by omega)
      go_wp2_with fail
      refine hrep.mono ?_
      clear hrep
      intro e w11 h11
      unfold TrPost at h11
      cases hRE : readT (xl) with
      | none =>
        rw [hRE] at h11
        obtain ⟨rfl, hu11⟩ := h11
        have hrx11 := hrx.up hu11
        have hcv : (convert 22 9 (.slice (X) (xn) (xc))).run Tryz.prog w11 = .ok (.string (tx (xl))) _ := run_str (xc) hrx11
        have hne : ((tx (xl)).toList == (tx S).toList) = false := tx_bne (fun h => HRT.out (by rw [← h]; exact hRE))
        have hu711 := hu7.trans hu11
        clear hRE hxl hu11 hrx
        go_wp2_with fail
        clear hcv
        apply Rg.region_up (fun W => Up w11 W) (by kernel_rfl) (by kernel_rfl) (fun _ h => h)
        · intro QN hQN
          iterate 3 (apply Rg.RK.ok; (· intro vs w1 hS; go_simp; with_reducible rfl); (· rfl); simp only [Act.put, List.setIfInBounds_toArray, List.set_cons_zero, List.set_cons_succ, Nat.reduceAdd])
          iterate 6 (apply Rg.RK.gno (t := 98) (y := false); (· rfl); (· intro vs; rfl); (· rfl); simp only [Act.put, List.setIfInBounds_toArray, List.set_cons_zero, List.set_cons_succ, Nat.reduceAdd])
          iterate 1 (apply Rg.RK.ok; (· intro vs w1 hS; go_simp; with_reducible rfl); (· rfl); simp only [Act.put, List.setIfInBounds_toArray, List.set_cons_zero, List.set_cons_succ, Nat.reduceAdd])
          apply Rg.RK.fin []
          intro vs w1 hK hS _
          refine hQN.out _ _ ?_
          clear hQN
          have hr13 := hrx11.up hS
          have hu713 := hu711.trans hS
          clear hK hS hrx11 hu711
          go_wp2_with fail
          go_roundw
          case rel => exact ⟨1, X, xn, xc, xl, by go_num, rfl, by omega, by omega, by omega, hr13, hu713⟩
          case measure => simp [intOf]
        · kernel_rfl
      | some LL =>
        rw [hRE] at h11
        obtain ⟨g, m, trc, NN, TR, rs, rfl, hd, hg, hO, hrw, hq, hNN, hu11⟩ := h11
        obtain ⟨r1, r2, r3⟩ := readT_some hRE
        have hmk := (makeE_ok r1).1
        have hrx11 := hrx.up hu11
        have hcv : (convert 22 9 (.slice (X) (xn) (xc))).run Tryz.prog w11 = .ok (.string (tx (xl))) _ := run_str (xc) hrx11
        have hu711 := hu7.trans hu11
        have hwr11 := hu11.size
        have hfl : flL rs = LL.flatten := by rw [flL_flat, hq]
        have hml : m ≤ 1000 := by
          have h1 := OwnRI.len hO
          have h2 := congrArg List.length hq
          rw [rwl_len, r3] at h2
          have h3 := rowsC_len LL.flatten
          omega
        obtain ⟨L, hL⟩ : ∃ L, L = LL.flatten := ⟨_, rfl⟩
        rw [← hL] at hfl r2 hmk
        obtain ⟨n9, hn9⟩ : ∃ n9, n9 = L.length := ⟨_, rfl⟩
        rw [← hn9] at hmk
        have HFL := Lib.hid hfl
        have HR2 := Lib.hid r2
        have HN9 := Lib.hid hn9
        have hnx : ((tx (xl)).toList != (tx (xl)).toList) = false := by simp
        have hS : ∀ W, Up w11 W → (W.heap[g]? = some (.cells (tcs TR m trc NN 0 none) 74 (0, 0)) ∧ OwnRI W wr.heap.size TR m trc rs ∧ RwOwn W wr.heap.size rs) ∧ Up w11 W := fun W h => ⟨⟨blk_up h hd, hO.up h, hrw.up h⟩, h⟩
        obtain ⟨bb, hbb⟩ : ∃ bb, ((tx (xl)).toList == (tx S).toList) = bb := ⟨_, rfl⟩
        clear hRE hxl hu11 hrx r1 r3 hq hL hn9 hfl r2 hd hO hrw hNN
        cases bb with
        | true =>
          go_wp2_with fail
          clear hcv
          apply Rg.region_up _ (by kernel_rfl) (by kernel_rfl) hS
          · intro QN hQN
            iterate 3 (apply Rg.RK.ok; (· intro vs w1 hS; go_simp; with_reducible rfl); (· rfl); simp only [Act.put, List.setIfInBounds_toArray, List.set_cons_zero, List.set_cons_succ, Nat.reduceAdd])
            iterate 1 (apply Rg.RK.gok (t := 98); (· intro vs w1 hS; go_simp; with_reducible rfl); (· rfl); (· intro vs; rfl); simp only [Act.put, List.setIfInBounds_toArray, List.set_cons_zero, List.set_cons_succ, Nat.reduceAdd])
            apply Rg.RK.gopn (t := 98) (fun v W => ∃ A c, v = .slice A n9 c ∧ OwnI W wr.heap.size A n9 c L) Rg.ob [] []
            · rintro v W1 W2 ⟨A, c, rfl, h⟩ hs
              exact ⟨A, c, rfl, row_sta h hs⟩
            · rfl
            · intro vs; rfl
            · intro vs w12 hK hS hf K hKK
              obtain ⟨⟨hd, hO, hrw⟩, hup12⟩ := hS
              have hall := tall_any g m trc NN 0 TR none rs w12 hd (OwnRI.rd hO) hrw.ok (by rw [HFL.out, ← HN9.out]; omega) (by omega)
              rw [HFL.out, ← HN9.out] at hall
              go_simp
              refine hall.mono ?_
              rintro e w13 ⟨A, c, rfl, ho, hu⟩
              have hwr : wr.heap.size ≤ w12.heap.size := Nat.le_trans hwr11 hup12.size
              exact hKK.out _ _ ⟨A, c, rfl, own_base ho hwr⟩ (Rg.Keeps.of_up hu) (own_row ho)
            simp only [Act.put, List.setIfInBounds_toArray, List.set_cons_zero, List.set_cons_succ, Nat.reduceAdd]
            apply Rg.RK.gcall (t := 98) (.string (tx (xl))) [4]
            · rfl
            · intro vs; rfl
            · intro vs w12 hK hS hf K hKK
              obtain ⟨⟨A, c, hv, ho⟩, -⟩ := hf
              (try dsimp only at hKK ⊢)
              rw [hv] at hKK ⊢
              go_simp
              refine (rtable_any A n9 c L w12 (Rd.own ho) (own_cap ho) (by omega)).mono ?_
              rintro e w13 ⟨rfl, hu⟩
              rw [HR2.out]
              exact hKK.out _ hu
            simp only [Act.put, List.setIfInBounds_toArray, List.set_cons_zero, List.set_cons_succ, Nat.reduceAdd]
            iterate 1 (apply Rg.RK.gok (t := 98); (· intro vs w1 hS; go_simp; with_reducible rfl); (· rfl); (· intro vs; rfl); simp only [Act.put, List.setIfInBounds_toArray, List.set_cons_zero, List.set_cons_succ, Nat.reduceAdd])
            apply Rg.RK.gok (t := 98) (v := .string (tx (xl)))
            · intro vs w1 hS
              exact exec_str rfl rfl (hrx11.up hS.2)
            · rfl
            · intro vs; rfl
            simp only [Act.put, List.setIfInBounds_toArray, List.set_cons_zero, List.set_cons_succ, Nat.reduceAdd]
            iterate 1 (apply Rg.RK.gok (t := 98); (· intro vs w1 hS; go_simp; with_reducible rfl); (· rfl); (· intro vs; rfl); simp only [Act.put, List.setIfInBounds_toArray, List.set_cons_zero, List.set_cons_succ, Nat.reduceAdd])
            iterate 1 (apply Rg.RK.ok; (· intro vs w1 hS; go_simp; with_reducible rfl); (· rfl); simp only [Act.put, List.setIfInBounds_toArray, List.set_cons_zero, List.set_cons_succ, Nat.reduceAdd])
            apply Rg.RK.fin []
            intro vs w1 hK hS _
            refine hQN.out _ _ ?_
            clear hQN
            have hr13 := hrx11.up hS.2
            have hu713 := hu711.trans hS.2
            clear hK hS hrx11 hu711
            go_wp2_with fail
            go_roundw
            case rel => exact ⟨1, X, xn, xc, xl, by go_num, rfl, by omega, by omega, by omega, hr13, hu713⟩
            case measure => simp [intOf]
          · kernel_rfl
        | false =>
          go_wp2_with fail
          clear hcv
          apply Rg.region_up _ (by kernel_rfl) (by kernel_rfl) hS
          · intro QN hQN
            iterate 3 (apply Rg.RK.ok; (· intro vs w1 hS; go_simp; with_reducible rfl); (· rfl); simp only [Act.put, List.setIfInBounds_toArray, List.set_cons_zero, List.set_cons_succ, Nat.reduceAdd])
            iterate 1 (apply Rg.RK.gok (t := 98); (· intro vs w1 hS; go_simp; with_reducible rfl); (· rfl); (· intro vs; rfl); simp only [Act.put, List.setIfInBounds_toArray, List.set_cons_zero, List.set_cons_succ, Nat.reduceAdd])
            apply Rg.RK.gopn (t := 98) (fun v W => ∃ A c, v = .slice A n9 c ∧ OwnI W wr.heap.size A n9 c L) Rg.ob [] []
            · rintro v W1 W2 ⟨A, c, rfl, h⟩ hs
              exact ⟨A, c, rfl, row_sta h hs⟩
            · rfl
            · intro vs; rfl
            · intro vs w12 hK hS hf K hKK
              obtain ⟨⟨hd, hO, hrw⟩, hup12⟩ := hS
              have hall := tall_any g m trc NN 0 TR none rs w12 hd (OwnRI.rd hO) hrw.ok (by rw [HFL.out, ← HN9.out]; omega) (by omega)
              rw [HFL.out, ← HN9.out] at hall
              go_simp
              refine hall.mono ?_
              rintro e w13 ⟨A, c, rfl, ho, hu⟩
              have hwr : wr.heap.size ≤ w12.heap.size := Nat.le_trans hwr11 hup12.size
              exact hKK.out _ _ ⟨A, c, rfl, own_base ho hwr⟩ (Rg.Keeps.of_up hu) (own_row ho)
            simp only [Act.put, List.setIfInBounds_toArray, List.set_cons_zero, List.set_cons_succ, Nat.reduceAdd]
            apply Rg.RK.gcall (t := 98) (.string (tx (xl))) [4]
            · rfl
            · intro vs; rfl
            · intro vs w12 hK hS hf K hKK
              obtain ⟨⟨A, c, hv, ho⟩, -⟩ := hf
              (try dsimp only at hKK ⊢)
              rw [hv] at hKK ⊢
              go_simp
              refine (rtable_any A n9 c L w12 (Rd.own ho) (own_cap ho) (by omega)).mono ?_
              rintro e w13 ⟨rfl, hu⟩
              rw [HR2.out]
              exact hKK.out _ hu
            simp only [Act.put, List.setIfInBounds_toArray, List.set_cons_zero, List.set_cons_succ, Nat.reduceAdd]
            iterate 1 (apply Rg.RK.gok (t := 98); (· intro vs w1 hS; go_simp; with_reducible rfl); (· rfl); (· intro vs; rfl); simp only [Act.put, List.setIfInBounds_toArray, List.set_cons_zero, List.set_cons_succ, Nat.reduceAdd])
            apply Rg.RK.gok (t := 98) (v := .string (tx (xl)))
            · intro vs w1 hS
              exact exec_str rfl rfl (hrx11.up hS.2)
            · rfl
            · intro vs; rfl
            simp only [Act.put, List.setIfInBounds_toArray, List.set_cons_zero, List.set_cons_succ, Nat.reduceAdd]
            iterate 1 (apply Rg.RK.gok (t := 98); (· intro vs w1 hS; go_simp; with_reducible rfl); (· rfl); (· intro vs; rfl); simp only [Act.put, List.setIfInBounds_toArray, List.set_cons_zero, List.set_cons_succ, Nat.reduceAdd])
            iterate 1 (apply Rg.RK.ok; (· intro vs w1 hS; go_simp; with_reducible rfl); (· rfl); simp only [Act.put, List.setIfInBounds_toArray, List.set_cons_zero, List.set_cons_succ, Nat.reduceAdd])
            apply Rg.RK.fin []
            intro vs w1 hK hS _
            refine hQN.out _ _ ?_
            clear hQN
            have hr13 := hrx11.up hS.2
            have hu713 := hu711.trans hS.2
            clear hK hS hrx11 hu711
            go_wp2_with fail
            go_roundw
            case rel => exact ⟨1, X, xn, xc, xl, by go_num, rfl, by omega, by omega, by omega, hr13, hu713⟩
            case measure => simp [intOf]
          · kernel_rfl
    · have hrx := hrd9.up hu7
      have hxl : (T3).length ≤ 1000000 := by have := hrx.blen; omega
      have hrep := tread_any (A9) (D3) (c9) (T3) wr hrx (by omega) (by omega)
      go_wp2_with fail
      refine hrep.mono ?_
      clear hrep
      intro e w11 h11
      unfold TrPost at h11
      cases hRE : readT (T3) with
      | none =>
        rw [hRE] at h11
        obtain ⟨rfl, hu11⟩ := h11
        have hrx11 := hrx.up hu11
        have hcv : (convert 22 9 (.slice (A9) (D3) (c9))).run Tryz.prog w11 = .ok (.string (tx (T3))) _ := run_str (c9) hrx11
        have hne : ((tx (T3)).toList == (tx S).toList) = false := tx_bne (fun h => HRT.out (by rw [← h]; exact hRE))
        have hu711 := hu7.trans hu11
        clear hRE hxl hu11 hrx
        go_wp2_with fail
        clear hcv
        apply Rg.region_up (fun W => Up w11 W) (by kernel_rfl) (by kernel_rfl) (fun _ h => h)
        · intro QN hQN
          iterate 3 (apply Rg.RK.ok; (· intro vs w1 hS; go_simp; with_reducible rfl); (· rfl); simp only [Act.put, List.setIfInBounds_toArray, List.set_cons_zero, List.set_cons_succ, Nat.reduceAdd])
          iterate 6 (apply Rg.RK.gno (t := 98) (y := false); (· rfl); (· intro vs; rfl); (· rfl); simp only [Act.put, List.setIfInBounds_toArray, List.set_cons_zero, List.set_cons_succ, Nat.reduceAdd])
          iterate 1 (apply Rg.RK.ok; (· intro vs w1 hS; go_simp; with_reducible rfl); (· rfl); simp only [Act.put, List.setIfInBounds_toArray, List.set_cons_zero, List.set_cons_succ, Nat.reduceAdd])
          apply Rg.RK.fin []
          intro vs w1 hK hS _
          refine hQN.out _ _ ?_
          clear hQN
          have hr13 := hrx11.up hS
          have hu713 := hu711.trans hS
          clear hK hS hrx11 hu711
          go_wp2_with fail
          go_roundw
          case rel => exact ⟨2, A9, D3, c9, T3, by go_num, rfl, by omega, by omega, by omega, hr13, hu713⟩
          case measure => simp [intOf]
        · kernel_rfl
      | some LL =>
        rw [hRE] at h11
        obtain ⟨g, m, trc, NN, TR, rs, rfl, hd, hg, hO, hrw, hq, hNN, hu11⟩ := h11
        obtain ⟨r1, r2, r3⟩ := readT_some hRE
        have hmk := (makeE_ok r1).1
        have hrx11 := hrx.up hu11
        have hcv : (convert 22 9 (.slice (A9) (D3) (c9))).run Tryz.prog w11 = .ok (.string (tx (T3))) _ := run_str (c9) hrx11
        have hu711 := hu7.trans hu11
        have hwr11 := hu11.size
        have hfl : flL rs = LL.flatten := by rw [flL_flat, hq]
        have hml : m ≤ 1000 := by
          have h1 := OwnRI.len hO
          have h2 := congrArg List.length hq
          rw [rwl_len, r3] at h2
          have h3 := rowsC_len LL.flatten
          omega
        obtain ⟨L, hL⟩ : ∃ L, L = LL.flatten := ⟨_, rfl⟩
        rw [← hL] at hfl r2 hmk
        obtain ⟨n9, hn9⟩ : ∃ n9, n9 = L.length := ⟨_, rfl⟩
        rw [← hn9] at hmk
        have HFL := Lib.hid hfl
        have HR2 := Lib.hid r2
        have HN9 := Lib.hid hn9
        have hnx : ((tx (T3)).toList != (tx (T3)).toList) = false := by simp
        have hS : ∀ W, Up w11 W → (W.heap[g]? = some (.cells (tcs TR m trc NN 0 none) 74 (0, 0)) ∧ OwnRI W wr.heap.size TR m trc rs ∧ RwOwn W wr.heap.size rs) ∧ Up w11 W := fun W h => ⟨⟨blk_up h hd, hO.up h, hrw.up h⟩, h⟩
        obtain ⟨bb, hbb⟩ : ∃ bb, ((tx (T3)).toList == (tx S).toList) = bb := ⟨_, rfl⟩
        clear hRE hxl hu11 hrx r1 r3 hq hL hn9 hfl r2 hd hO hrw hNN
        cases bb with
        | true =>
          go_wp2_with fail
          clear hcv
          apply Rg.region_up _ (by kernel_rfl) (by kernel_rfl) hS
          · intro QN hQN
            iterate 3 (apply Rg.RK.ok; (· intro vs w1 hS; go_simp; with_reducible rfl); (· rfl); simp only [Act.put, List.setIfInBounds_toArray, List.set_cons_zero, List.set_cons_succ, Nat.reduceAdd])
            iterate 1 (apply Rg.RK.gok (t := 98); (· intro vs w1 hS; go_simp; with_reducible rfl); (· rfl); (· intro vs; rfl); simp only [Act.put, List.setIfInBounds_toArray, List.set_cons_zero, List.set_cons_succ, Nat.reduceAdd])
            apply Rg.RK.gopn (t := 98) (fun v W => ∃ A c, v = .slice A n9 c ∧ OwnI W wr.heap.size A n9 c L) Rg.ob [] []
            · rintro v W1 W2 ⟨A, c, rfl, h⟩ hs
              exact ⟨A, c, rfl, row_sta h hs⟩
            · rfl
            · intro vs; rfl
            · intro vs w12 hK hS hf K hKK
              obtain ⟨⟨hd, hO, hrw⟩, hup12⟩ := hS
              have hall := tall_any g m trc NN 0 TR none rs w12 hd (OwnRI.rd hO) hrw.ok (by rw [HFL.out, ← HN9.out]; omega) (by omega)
              rw [HFL.out, ← HN9.out] at hall
              go_simp
              refine hall.mono ?_
              rintro e w13 ⟨A, c, rfl, ho, hu⟩
              have hwr : wr.heap.size ≤ w12.heap.size := Nat.le_trans hwr11 hup12.size
              exact hKK.out _ _ ⟨A, c, rfl, own_base ho hwr⟩ (Rg.Keeps.of_up hu) (own_row ho)
            simp only [Act.put, List.setIfInBounds_toArray, List.set_cons_zero, List.set_cons_succ, Nat.reduceAdd]
            apply Rg.RK.gcall (t := 98) (.string (tx (T3))) [4]
            · rfl
            · intro vs; rfl
            · intro vs w12 hK hS hf K hKK
              obtain ⟨⟨A, c, hv, ho⟩, -⟩ := hf
              (try dsimp only at hKK ⊢)
              rw [hv] at hKK ⊢
              go_simp
              refine (rtable_any A n9 c L w12 (Rd.own ho) (own_cap ho) (by omega)).mono ?_
              rintro e w13 ⟨rfl, hu⟩
              rw [HR2.out]
              exact hKK.out _ hu
            simp only [Act.put, List.setIfInBounds_toArray, List.set_cons_zero, List.set_cons_succ, Nat.reduceAdd]
            iterate 1 (apply Rg.RK.gok (t := 98); (· intro vs w1 hS; go_simp; with_reducible rfl); (· rfl); (· intro vs; rfl); simp only [Act.put, List.setIfInBounds_toArray, List.set_cons_zero, List.set_cons_succ, Nat.reduceAdd])
            apply Rg.RK.gok (t := 98) (v := .string (tx (T3)))
            · intro vs w1 hS
              exact exec_str rfl rfl (hrx11.up hS.2)
            · rfl
            · intro vs; rfl
            simp only [Act.put, List.setIfInBounds_toArray, List.set_cons_zero, List.set_cons_succ, Nat.reduceAdd]
            iterate 1 (apply Rg.RK.gok (t := 98); (· intro vs w1 hS; go_simp; with_reducible rfl); (· rfl); (· intro vs; rfl); simp only [Act.put, List.setIfInBounds_toArray, List.set_cons_zero, List.set_cons_succ, Nat.reduceAdd])
            iterate 1 (apply Rg.RK.ok; (· intro vs w1 hS; go_simp; with_reducible rfl); (· rfl); simp only [Act.put, List.setIfInBounds_toArray, List.set_cons_zero, List.set_cons_succ, Nat.reduceAdd])
            apply Rg.RK.fin []
            intro vs w1 hK hS _
            refine hQN.out _ _ ?_
            clear hQN
            have hr13 := hrx11.up hS.2
            have hu713 := hu711.trans hS.2
            clear hK hS hrx11 hu711
            go_wp2_with fail
            go_roundw
            case rel => exact ⟨2, A9, D3, c9, T3, by go_num, rfl, by omega, by omega, by omega, hr13, hu713⟩
            case measure => simp [intOf]
          · kernel_rfl
        | false =>
          go_wp2_with fail
          clear hcv
          apply Rg.region_up _ (by kernel_rfl) (by kernel_rfl) hS
          · intro QN hQN
            iterate 3 (apply Rg.RK.ok; (· intro vs w1 hS; go_simp; with_reducible rfl); (· rfl); simp only [Act.put, List.setIfInBounds_toArray, List.set_cons_zero, List.set_cons_succ, Nat.reduceAdd])
            iterate 1 (apply Rg.RK.gok (t := 98); (· intro vs w1 hS; go_simp; with_reducible rfl); (· rfl); (· intro vs; rfl); simp only [Act.put, List.setIfInBounds_toArray, List.set_cons_zero, List.set_cons_succ, Nat.reduceAdd])
            apply Rg.RK.gopn (t := 98) (fun v W => ∃ A c, v = .slice A n9 c ∧ OwnI W wr.heap.size A n9 c L) Rg.ob [] []
            · rintro v W1 W2 ⟨A, c, rfl, h⟩ hs
              exact ⟨A, c, rfl, row_sta h hs⟩
            · rfl
            · intro vs; rfl
            · intro vs w12 hK hS hf K hKK
              obtain ⟨⟨hd, hO, hrw⟩, hup12⟩ := hS
              have hall := tall_any g m trc NN 0 TR none rs w12 hd (OwnRI.rd hO) hrw.ok (by rw [HFL.out, ← HN9.out]; omega) (by omega)
              rw [HFL.out, ← HN9.out] at hall
              go_simp
              refine hall.mono ?_
              rintro e w13 ⟨A, c, rfl, ho, hu⟩
              have hwr : wr.heap.size ≤ w12.heap.size := Nat.le_trans hwr11 hup12.size
              exact hKK.out _ _ ⟨A, c, rfl, own_base ho hwr⟩ (Rg.Keeps.of_up hu) (own_row ho)
            simp only [Act.put, List.setIfInBounds_toArray, List.set_cons_zero, List.set_cons_succ, Nat.reduceAdd]
            apply Rg.RK.gcall (t := 98) (.string (tx (T3))) [4]
            · rfl
            · intro vs; rfl
            · intro vs w12 hK hS hf K hKK
              obtain ⟨⟨A, c, hv, ho⟩, -⟩ := hf
              (try dsimp only at hKK ⊢)
              rw [hv] at hKK ⊢
              go_simp
              refine (rtable_any A n9 c L w12 (Rd.own ho) (own_cap ho) (by omega)).mono ?_
              rintro e w13 ⟨rfl, hu⟩
              rw [HR2.out]
              exact hKK.out _ hu
            simp only [Act.put, List.setIfInBounds_toArray, List.set_cons_zero, List.set_cons_succ, Nat.reduceAdd]
            iterate 1 (apply Rg.RK.gok (t := 98); (· intro vs w1 hS; go_simp; with_reducible rfl); (· rfl); (· intro vs; rfl); simp only [Act.put, List.setIfInBounds_toArray, List.set_cons_zero, List.set_cons_succ, Nat.reduceAdd])
            apply Rg.RK.gok (t := 98) (v := .string (tx (T3)))
            · intro vs w1 hS
              exact exec_str rfl rfl (hrx11.up hS.2)
            · rfl
            · intro vs; rfl
            simp only [Act.put, List.setIfInBounds_toArray, List.set_cons_zero, List.set_cons_succ, Nat.reduceAdd]
            iterate 1 (apply Rg.RK.gok (t := 98); (· intro vs w1 hS; go_simp; with_reducible rfl); (· rfl); (· intro vs; rfl); simp only [Act.put, List.setIfInBounds_toArray, List.set_cons_zero, List.set_cons_succ, Nat.reduceAdd])
            iterate 1 (apply Rg.RK.ok; (· intro vs w1 hS; go_simp; with_reducible rfl); (· rfl); simp only [Act.put, List.setIfInBounds_toArray, List.set_cons_zero, List.set_cons_succ, Nat.reduceAdd])
            apply Rg.RK.fin []
            intro vs w1 hK hS _
            refine hQN.out _ _ ?_
            clear hQN
            have hr13 := hrx11.up hS.2
            have hu713 := hu711.trans hS.2
            clear hK hS hrx11 hu711
            go_wp2_with fail
            go_roundw
            case rel => exact ⟨2, A9, D3, c9, T3, by go_num, rfl, by omega, by omega, by omega, hr13, hu713⟩
            case measure => simp [intOf]
          · kernel_rfl
    · go_wp2_with fail
      refine (awake12_any wr).mono ?_
      rintro e w10 ⟨rfl, hu10⟩
      go_wp2_with fail
      go_ret
      exact ⟨rfl, (hupz.trans hu7).trans hu10⟩
end Go.Proofs.YtfmjgkfblejknaaGreat.tableHostile

/-
  'clepsydra/clepsydralaw12.TableHostile': for every input the law returns true; each argument reads behind the call as it read before. No condition.
-/
namespace Go.Proofs.YtfmjgkfblejknaaGreat.tableHostile
open Go.ChangeShapes Go.WideShapes Go.ChangeAt Go.RowKit
open Go.ChangeMaps (open_string shut_string)
set_option linter.unusedVariables false

set_option maxRecDepth 100000 in
theorem lifted (os : Os) (started : os.Started) (H : Type) (enc : TypeId × Value → H) :
    ReturnsInHanded {} Tryz.checked os 3 .any (Rows.tableHostileSpec.pre6 enc Tryz.prog Tryz.f3 Rows.tableHostileRow.domain false) (Rows.tableHostileSpec.post enc Tryz.prog Tryz.f3 false true false false) := by
  refine returnsInHanded_of_change (C := Tryz.checked) prog_own started (by kernel_rfl) Tryz.func3
    (ChangeSpec.witness6 (enc := enc) (C := Tryz.checked) false ⟨#[], #[.slice none 0 0, .slice none 0 0, .int .i64 0, .int .u8 0, .int .i64 0, .slice none 0 0], []⟩ 8 (by kernel_rfl) (by kernel_rfl) (by kernel_rfl) (by kernel_rfl)) ?_
  intro W base args ds gs before hval0 hW hcnd _
  have hval : ∀ (j : Nat) t v, Tryz.f3.params[j]? = some t → args[j]? = some v → Value.okWide Tryz.prog W .any base t v := hval0
  have hW' := hW
  obtain ⟨p, q, hA0, hV, rfl, hfz, hnd⟩ := hW
  have hA : DataW.TrodAll enc Tryz.prog W 0 (fun _ => true) true Tryz.f3.params.toList args.toList ds p := hA0
  rw [Tryz.params3] at hA hval
  obtain ⟨v0, vs0, d0, ds0, p0, q0, hargs, rfl, rfl, h0, r0⟩ := trodAll_cons hA
  obtain ⟨v1, vs1, d1, ds1, p1, q1, rfl, rfl, rfl, h1, r1⟩ := trodAll_cons r0
  obtain ⟨v2, vs2, d2, ds2, p2, q2, rfl, rfl, rfl, h2, r2⟩ := trodAll_cons r1
  obtain ⟨v3, vs3, d3, ds3, p3, q3, rfl, rfl, rfl, h3, r3⟩ := trodAll_cons r2
  obtain ⟨v4, vs4, d4, ds4, p4, q4, rfl, rfl, rfl, h4, r4⟩ := trodAll_cons r3
  obtain ⟨v5, vs5, d5, ds5, p5, q5, rfl, rfl, rfl, h5, r5⟩ := trodAll_cons r4
  obtain ⟨rfl, rfl, rfl⟩ := trodAll_nil r5
  obtain rfl : args = #[v0, v1, v2, v3, v4, v5] := by cases args; simp_all
  obtain ⟨rfl, rfl⟩ := trodVars_none hV
  obtain ⟨a0, len0, cap0, rfl⟩ := okWide_slice Tryz.underlying22 (hval 0 22 v0 rfl rfl)
  have k0 := h0
  have lt0 : ∀ x ∈ p0, x.block < W.heap.size := by obtain ⟨m, hm⟩ := k0; exact DataW.trod_lt m _ _ _ hm
  obtain ⟨l0, w0⟩ := is_b h0
  obtain ⟨a1, len1, cap1, rfl⟩ := okWide_slice Tryz.underlying23 (hval 1 23 v1 rfl rfl)
  have k1 := h1
  have lt1 : ∀ x ∈ p1, x.block < W.heap.size := by obtain ⟨m, hm⟩ := k1; exact DataW.trod_lt m _ _ _ hm
  obtain ⟨l1, w1⟩ := is_i h1
  obtain ⟨a2, rfl, rfl, rfl, w2⟩ := open_int Tryz.underlying3 (hval 2 3 v2 rfl rfl) h2
  have b2 := bd_i64 w2
  obtain ⟨a3, rfl, rfl, rfl, w3⟩ := open_int Tryz.underlying5 (hval 3 5 v3 rfl rfl) h3
  have b3 := bd_u8 w3
  obtain ⟨a4, rfl, rfl, rfl, w4⟩ := open_int Tryz.underlying3 (hval 4 3 v4 rfl rfl) h4
  have b4 := bd_i64 w4
  obtain ⟨a5, len5, cap5, rfl⟩ := okWide_slice Tryz.underlying22 (hval 5 22 v5 rfl rfl)
  have k5 := h5
  have lt5 : ∀ x ∈ p5, x.block < W.heap.size := by obtain ⟨m, hm⟩ := k5; exact DataW.trod_lt m _ _ _ hm
  obtain ⟨l5, w5⟩ := is_b h5
  clear hA0 hval0
  refine (law_any a0 len0 cap0 l0 a1 len1 cap1 l1 a2 a3 a4 a5 len5 cap5 l5 W w0 w1 b2 b3 b4 w5).mono fun e W' ⟨he, bel⟩ => ?_
  subst he
  exact ⟨_, rfl, _, _, _, [], _, [], hW', trodAll_mk1 (shut_bool Tryz.underlying4 _), (trodAll_cons_mk (Below.trod laidOut (by kernel_rfl) (of_decide_eq_true (by kernel_rfl)) k0 bel lt0) (trodAll_cons_mk (Below.trod laidOut (by kernel_rfl) (of_decide_eq_true (by kernel_rfl)) k1 bel lt1) (trodAll_cons_mk (shut_int Tryz.underlying3 w2) (trodAll_cons_mk (shut_int Tryz.underlying5 w3) (trodAll_cons_mk (shut_int Tryz.underlying3 w4) (trodAll_cons_mk (Below.trod laidOut (by kernel_rfl) (of_decide_eq_true (by kernel_rfl)) k5 bel lt5) trodAll_mk0)))))), rfl, bel.frame _, fun h => by cases h⟩

theorem proved : Rows.TableHostileSaid :=
  OpenClaim.holds_of_wide 3 Tryz.f3 rfl rfl rfl rfl rfl rfl rfl ⟨rfl, rfl, rfl, rfl, rfl⟩ rfl rfl rfl rfl rfl (by kernel_rfl) Tryz.func3 (by kernel_rfl)
    (of_decide_eq_true (by kernel_rfl)) (by unfold Func.isWrapper; first | (rw [if_pos (by decide +kernel)]; kernel_rfl) | (rw [if_neg (by decide +kernel)]; exact ⟨rfl, rfl⟩))
    (fun os started H enc _ => lifted os started H enc)
#print axioms proved
end Go.Proofs.YtfmjgkfblejknaaGreat.tableHostile
