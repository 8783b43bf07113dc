/-
  'clepsydra/clepsydralaw12.TableBits': for every input the law returns true; each argument reads behind the call as it read before. No condition.
-/
import Derived.Laws.BitsAllLaws
import Derived.IntWalk
import Derived.Test.YtfmjgkfblejknaaGreatZ7
/-
  The law TableBits: the walk.
-/
namespace Go.Proofs.YtfmjgkfblejknaaGreat.tableBits
open Go.RowKit
set_option linter.unusedVariables false
set_option linter.unusedSimpArgs false

theorem flipsB_snoc (S : List UInt8) (ps : List Nat) (p : Nat) : flipsB S (ps ++ [p]) = flipB (flipsB S ps) p := by unfold flipsB; rw [List.foldl_append]; rfl
set_option maxRecDepth 100000 in
set_option maxHeartbeats 16000000 in
theorem law_any (A : Option Addr) (n c : Nat) (l : List It) (at0 xi xj xk : Int) (w : World) (h0 : IsI w A n c l) (b1 : -9223372036854775808 ≤ at0 ∧ at0 ≤ 9223372036854775807) (b2 : -9223372036854775808 ≤ xi ∧ xi ≤ 9223372036854775807) (b3 : -9223372036854775808 ≤ xj ∧ xj ≤ 9223372036854775807) (b4 : -9223372036854775808 ≤ xk ∧ xk ≤ 9223372036854775807) :
    Calls Tryz.prog 4 #[.slice A n c, .int .i64 at0, .int .i64 xi, .int .i64 xj, .int .i64 xk] w fun e w' => e = .returned (.bool true) ∧ Up w w' := by
  obtain ⟨ha, hac, -⟩ := h0
  by_cases c2 : 60 < n
  · have c2i : (60 : Int) < (n : Int) := by omega
    go_enter Tryz.func4, Tryz.ntmps4
    go_wp2_with fail
    refine (awake12_any w).mono ?_
    rintro e w2 ⟨rfl, hu2⟩
    go_wp2_with fail
    go_ret
    exact ⟨rfl, hu2⟩
  have c2i : ¬ (60 : Int) < (n : Int) := by omega
  have HRI := Lib.hid (rising12_any A n c l w ha hac (by omega))
  have hql := qL_len l
  have hll := ha.ilen
  have hq2 : (qL l).length ≤ 2000 := by omega
  have hme : makeE (qL l) = 0 := makeE_q (by omega)
  have HLL := Lib.hid hll
  clear ha hll hac b1 b2 b3 b4
  go_enter Tryz.func4, Tryz.ntmps4
  go_wp2_with fail
  clear c2i c2
  refine HRI.out.mono ?_
  rintro e w1 ⟨R, rn, rc, rfl, hR, hu1⟩
  have HTB := Lib.hid (rtable_any R rn rc (qL l) w1 (Rd.own hR) (own_cap hR) (by have := OwnI.ilen hR; omega))
  clear hR
  go_wp2_with fail
  refine HTB.out.mono ?_
  rintro e w5 ⟨rfl, hu5⟩
  have hup5 := hu1.trans hu5
  have htl := tab_len hq2
  have htp : 12 ≤ (tabB (qL l)).length := by unfold tabB; rw [List.length_append, frameB_len]; omega
  have hrt : readT (tabB (qL l)) = some (rowsC (qL l)) := readT_tab hme
  have hlaw : ∀ ps : List Nat, ps.length ≤ 3 → (∀ p ∈ ps, p < 8 * (tabB (qL l)).length) → flipsB (tabB (qL l)) ps = tabB (qL l) ∨ readT (flipsB (tabB (qL l)) ps) = none := fun ps h3 hb => tab_flips hme h3 hb
  generalize rowsC (qL l) = RC at *
  obtain ⟨F1, hF1⟩ : ∃ F1, F1 = tabB (qL l) := ⟨_, rfl⟩
  rw [← hF1] at htl htp hrt hlaw ⊢
  have HLAW := Lib.hid hlaw
  have HRT := Lib.hid hrt
  obtain ⟨m, hmL⟩ : ∃ m, m = F1.length := ⟨_, rfl⟩
  rw [← hmL] at htl htp
  clear hF1 hrt hlaw hme hql hq2 HTB HRI HLL hu1 hu5
  obtain ⟨c6, w6, hconv, hcap, hbeg, hu6⟩ := conv_beg w5 F1
  rw [← hmL] at hconv hcap
  generalize hg7 : w5.heap.size = g5 at hconv hbeg
  obtain ⟨Z, hZ⟩ : ∃ Z, Z = 8 * m := ⟨_, rfl⟩
  have a10 : IntKind.i64.wrap (8 * (m : Int)) = (Z : Int) := by rw [IntWalk.i64_in _ (by omega)]; omega
  have a11 : 8 * (m : Int) = (Z : Int) := by omega
  have a12 : IntKind.i64.wrap (Z : Int) = (Z : Int) := IntWalk.i64_in _ (by omega)
  have HZ := Lib.hid hZ
  have HML := Lib.hid hmL
  have HG7 := Lib.hid hg7
  have hF1 : F1.length ≤ 340000 := by omega
  have HF1 := Lib.hid hF1
  obtain ⟨C9, hC9, hC9b⟩ := i64_and_le at0 16777215 (by omega)
  obtain ⟨C0, hC0, hC0b⟩ := i64_and_le xi 31 (by omega)
  obtain ⟨C1, hC1, hC1b⟩ := i64_and_le xj 31 (by omega)
  obtain ⟨C2, hC2, hC2b⟩ := i64_and_le xk 31 (by omega)
  replace hC9 : bits .and .i64 at0 16777215 = (C9 : Int) := hC9
  replace hC0 : bits .and .i64 xi 31 = (C0 : Int) := hC0
  replace hC1 : bits .and .i64 xj 31 = (C1 : Int) := hC1
  replace hC2 : bits .and .i64 xk 31 = (C2 : Int) := hC2
  have hZ0 : 0 < Z := by omega
  have hZb : Z ≤ 2720000 := by omega
  have hZ1 : ¬ ((Z : Int) = 0) := by omega
  have hZ2 : ¬ Z = 0 := by omega
  obtain ⟨P, hP, hPZ⟩ : ∃ q : Nat, (C9 : Int) % (Z : Int) = (q : Int) ∧ q < Z := ⟨C9 % Z, by rw [Int.natCast_emod], Nat.mod_lt C9 hZ0⟩
  have hP2 : (C9 : Int).tmod (Z : Int) = (P : Int) := by rw [Int.tmod_eq_emod_of_nonneg (by omega)]; exact hP
  have hP3 : IntKind.i64.wrap (P : Int) = (P : Int) := IntWalk.i64_in _ (by omega)
  obtain ⟨q0, hq0⟩ : ∃ q : Nat, (P : Int) + (C0 : Int) = (q : Int) := ⟨P + C0, by omega⟩
  obtain ⟨q1, hq1⟩ : ∃ q : Nat, (P : Int) + (C1 : Int) = (q : Int) := ⟨P + C1, by omega⟩
  obtain ⟨q2, hq2⟩ : ∃ q : Nat, (P : Int) + (C2 : Int) = (q : Int) := ⟨P + C2, by omega⟩
  have hb0 : q0 ≤ 3000000 := by omega
  have hb1 : q1 ≤ 3000000 := by omega
  have hb2 : q2 ≤ 3000000 := by omega
  clear hmL hZ hg7 hF1 htp
  go_wp2_with fail
  have hu7 : Up w5 (w6.alloc (.cells #[.int .i64 xi, .int .i64 xj, .int .i64 xk] 3)) := hu6.trans ((Up.refl _).alloc _)
  have hbeg7 : Beg g5 F1 (w6.alloc (.cells #[.int .i64 xi, .int .i64 xj, .int .i64 xk] 3)) := hbeg.up ((Up.refl _).alloc _)
  have hgL : (w6.alloc (.cells #[.int .i64 xi, .int .i64 xj, .int .i64 xk] 3)).heap[w6.heap.size]? = some (.cells #[.int .i64 xi, .int .i64 xj, .int .i64 xk] 3 (0, 0)) := Array.getElem?_push_size
  have hne : g5 < w6.heap.size := hbeg.lt
  have hneL : ¬ w6.heap.size = g5 := by omega
  generalize w6.alloc (.cells #[.int .i64 xi, .int .i64 xj, .int .i64 xk] 3) = w7 at *
  generalize w6.heap.size = gL at *
  clear hbeg hu6 hconv
  go_loopw [39] (fun i wr => ∃ t : Nat, i = .int .i64 (t : Int) ∧ t ≤ 3 ∧ Up w5 wr ∧ Beg g5 (flipsB F1 (([q0, q1, q2].take t).filter fun q => decide (q < Z))) wr ∧ wr.heap[gL]? = some (.cells #[.int .i64 xi, .int .i64 xj, .int .i64 xk] 3 (0, 0))) (fun i _ => 3 - (intOf i).toNat)
  case atStart => exact ⟨0, rfl, by omega, hu7, hbeg7, hgL⟩
  case round =>
    obtain ⟨t, rfl, ht, hur, hbr, hLr⟩ := hrel
    have hg7 := HG7.out
    have hcases : t = 0 ∨ t = 1 ∨ t = 2 ∨ t = 3 := by omega
    rcases hcases with rfl | rfl | rfl | rfl
    · by_cases hqZ : q0 < Z
      · have hlt := flipsB_len (([q0, q1, q2].take 0).filter fun q => decide (q < Z)) F1
        have hcx : wr.cell? ⟨gL, 0, none⟩ = some (.int .i64 xi) := blk_cell hLr 0
        generalize hl : flipsB F1 (([q0, q1, q2].take 0).filter fun q => decide (q < Z)) = l at *
        have HLL := Lib.hid hl
        clear hl
        obtain ⟨p, hp⟩ : ∃ p, p = q0 := ⟨_, rfl⟩
        have hpl : p / 8 < l.length := by have h1 := HZ.out; have h2 := HML.out; omega
        have hpZ : p < Z := by rw [hp]; exact hqZ
        have hpZi : (p : Int) < (Z : Int) := by omega
        replace hq0 : (P : Int) + (C0 : Int) = (p : Int) := by rw [hq0, hp]
        have a2 : IntKind.i64.wrap (p : Int) = (p : Int) := IntWalk.i64_in _ (by omega)
        obtain ⟨j, hj⟩ : ∃ j, j = p / 8 := ⟨_, rfl⟩
        obtain ⟨r, hr⟩ : ∃ r, r = p % 8 := ⟨_, rfl⟩
        have hr8 : r < 8 := by omega
        have a3 : (p : Int) / 8 = (j : Int) := by omega
        have a4 : (p : Int) % 8 = (r : Int) := by omega
        rw [← hj] at hpl
        have hjl : (j : Int) < (l.length : Int) := by omega
        have HJ := Lib.hid hj
        have HR := Lib.hid hr
        have HP := Lib.hid hp
        clear hj hr hp
        have hjS : (j : Int) < (F1.length : Int) := by omega
        have hjN : j < F1.length := by omega
        have hjM : (j : Int) < (m : Int) := by have := HML.out; omega
        have hjMN : j < m := by have := HML.out; omega
        have a5 : Int.tdiv (p : Int) 8 = (j : Int) := by rw [Int.tdiv_eq_ediv_of_nonneg (by omega)]; exact a3
        have a6 : Int.tmod (p : Int) 8 = (r : Int) := by rw [Int.tmod_eq_emod_of_nonneg (by omega)]; exact a4
        have a7 : IntKind.i64.wrap (j : Int) = (j : Int) := IntWalk.i64_in _ (by omega)
        have a8 : IntKind.i64.wrap (r : Int) = (r : Int) := IntWalk.i64_in _ (by omega)
        obtain ⟨b0, hb0⟩ : ∃ b0, b0 = l.getD j 0 := ⟨_, rfl⟩
        obtain ⟨b2, hb2⟩ : ∃ b2, b2 = UInt8.ofNat (2 ^ r) := ⟨_, rfl⟩
        obtain ⟨y, hy⟩ : ∃ y, y = b0 ^^^ b2 := ⟨_, rfl⟩
        have a9 : IntKind.u8.wrap ((2 : Int) ^ r) = (b2.toNat : Int) := by rw [hb2]; exact or_wrap_pow hr8
        have a10 : bits .xor .u8 (b0.toNat : Int) (b2.toNat : Int) = (y.toNat : Int) := by
          have h1 := b0.toNat_lt
          have h2 := b2.toNat_lt
          rw [hy, UInt8.toNat_xor, u8_xor_nat _ _ (by omega) (by omega)]
        have HB0 := Lib.hid hb0
        have HB2 := Lib.hid hb2
        have HY := Lib.hid hy
        clear hb0 hb2 hy
        have e0 : ((0 : Nat) : Int) = 0 := rfl
        go_wp2_with fail
        apply Rg.region_own 11 (fun W => Up w5 W) (fun g => g = g5) (Beg g5 l) rfl (by kernel_rfl) (by kernel_rfl) (by rintro g rfl; exact hbr.lt) hbr (fun w1 w2 h hs => h.sta hs (.inr rfl)) (fun w2 hK => keepsUpX (wq := wr.drew) (hur.trans (Up.refl _).drew) (Nat.le_of_eq hg7) hK)
        · intro QN hQN
          iterate 4 (apply Rg.RK.ok; (· intro vs w1 hS; go_simp; with_reducible rfl); (· rfl); simp only [Act.put, List.setIfInBounds_toArray, List.set_cons_zero, List.set_cons_succ, Nat.reduceAdd])
          apply Rg.RK.okU [11]
          · intro vs w1 hS hf
            have hb := hf.1
            have hb1 : Beg g5 l w1 := hb
            have hb2 := hb1.cell hpl
            rw [← HB0.out] at hb2
            have hb3 : w1.cell? ⟨g5, j, none⟩ = some (.int .u8 (b0.toNat : Int)) := hb2
            clear hb2
            go_simp
            with_reducible rfl
          · rfl
          simp only [Act.put, List.setIfInBounds_toArray, List.set_cons_zero, List.set_cons_succ, Nat.reduceAdd]
          iterate 4 (apply Rg.RK.ok; (· intro vs w1 hS; go_simp; with_reducible rfl); (· rfl); simp only [Act.put, List.setIfInBounds_toArray, List.set_cons_zero, List.set_cons_succ, Nat.reduceAdd])
          (apply Rg.RK.ok; (· intro vs w1 hS; go_simp; with_reducible rfl); (· rfl); simp only [Act.put, List.setIfInBounds_toArray, List.set_cons_zero, List.set_cons_succ, Nat.reduceAdd])
          apply Rg.RK.opD (fun vs W => Beg g5 (l.set j y) W) (fun vs g => g = g5) [11] [11] [] (fun _ _ _ => ⟨rfl, rfl⟩)
          · exact fun vs W1 W2 h hs => h.sta hs (.inr rfl)
          · rfl
          · intro vs w2 hK hS hf K hKK
            have hb1 : Beg g5 l w2 := hf.1
            have r0 := hb1.cell hpl
            have r1 := hb1.free hpl
            have r2 := hb1.set hpl y
            rw [show bv y = .int .u8 (y.toNat : Int) from rfl] at r2
            have r3 := setc_keeps w2 w2 g5 j (.int .u8 (y.toNat : Int)) (Rg.Keeps.refl _ _)
            go_simp
            refine hKK.out undef _ r2 (Keeps.weak r3 fun x hx => ⟨11, List.mem_singleton.2 rfl, hx⟩) (fun x hx => ⟨?_, .inr ⟨11, List.mem_singleton.2 rfl, hx⟩⟩)
            have hxx : x = g5 := hx
            rw [hxx]; exact r2.lt
          simp only [Act.put, List.setIfInBounds_toArray, List.set_cons_zero, List.set_cons_succ, Nat.reduceAdd]
          apply Rg.RK.fin [10]
          intro vs w8 hK hS hf
          obtain ⟨hbn, -⟩ := hf
          refine hQN.out _ _ ?_
          clear hQN
          have hbn2 : Beg g5 (l.set j y) w8 := hbn
          have e : flipsB F1 (([q0, q1, q2].take (0 + 1)).filter fun q => decide (q < Z)) = l.set j y := by
            rw [show [q0, q1, q2].take (0 + 1) = [q0, q1, q2].take 0 ++ [q0] from rfl, List.filter_append, List.filter_cons, if_pos (by simpa using hqZ), List.filter_nil, flipsB_snoc, HLL.out]
            unfold flipB
            rw [← HP.out, ← HJ.out, ← HR.out, ← HB0.out, ← HB2.out, ← HY.out]
          have hLn : w8.heap[gL]? = some (.cells #[.int .i64 xi, .int .i64 xj, .int .i64 xk] 3 (0, 0)) := (hK.block gL (Array.getElem?_eq_some_iff.1 hLr).1 hneL).trans hLr
          rw [← e] at hbn2
          clear hbn hK hLr hbr
          go_wp2_with fail
          go_roundw
          case rel => exact ⟨0 + 1, by go_num, by omega, hS, hbn2, hLn⟩
          case measure => simp [intOf]
        · kernel_rfl
      · have e : (([q0, q1, q2].take (0 + 1)).filter fun q => decide (q < Z)) = (([q0, q1, q2].take 0).filter fun q => decide (q < Z)) := by
          rw [show [q0, q1, q2].take (0 + 1) = [q0, q1, q2].take 0 ++ [q0] from rfl, List.filter_append, List.filter_cons, if_neg (by simpa using hqZ), List.filter_nil, List.append_nil]
        have hcx : wr.cell? ⟨gL, 0, none⟩ = some (.int .i64 xi) := blk_cell hLr 0
        rw [← e] at hbr
        have hpZi : ¬ (q0 : Int) < (Z : Int) := by omega
        have a2 : IntKind.i64.wrap (q0 : Int) = (q0 : Int) := IntWalk.i64_in _ (by omega)
        have e0 : ((0 : Nat) : Int) = 0 := rfl
        clear e
        go_wp2_with fail
        go_roundw
        case rel => exact ⟨0 + 1, by go_num, by omega, hur, hbr, hLr⟩
        case measure => simp [intOf]
    · by_cases hqZ : q1 < Z
      · have hlt := flipsB_len (([q0, q1, q2].take 1).filter fun q => decide (q < Z)) F1
        have hcx : wr.cell? ⟨gL, 1, none⟩ = some (.int .i64 xj) := blk_cell hLr 1
        generalize hl : flipsB F1 (([q0, q1, q2].take 1).filter fun q => decide (q < Z)) = l at *
        have HLL := Lib.hid hl
        clear hl
        obtain ⟨p, hp⟩ : ∃ p, p = q1 := ⟨_, rfl⟩
        have hpl : p / 8 < l.length := by have h1 := HZ.out; have h2 := HML.out; omega
        have hpZ : p < Z := by rw [hp]; exact hqZ
        have hpZi : (p : Int) < (Z : Int) := by omega
        replace hq1 : (P : Int) + (C1 : Int) = (p : Int) := by rw [hq1, hp]
        have a2 : IntKind.i64.wrap (p : Int) = (p : Int) := IntWalk.i64_in _ (by omega)
        obtain ⟨j, hj⟩ : ∃ j, j = p / 8 := ⟨_, rfl⟩
        obtain ⟨r, hr⟩ : ∃ r, r = p % 8 := ⟨_, rfl⟩
        have hr8 : r < 8 := by omega
        have a3 : (p : Int) / 8 = (j : Int) := by omega
        have a4 : (p : Int) % 8 = (r : Int) := by omega
        rw [← hj] at hpl
        have hjl : (j : Int) < (l.length : Int) := by omega
        have HJ := Lib.hid hj
        have HR := Lib.hid hr
        have HP := Lib.hid hp
        clear hj hr hp
        have hjS : (j : Int) < (F1.length : Int) := by omega
        have hjN : j < F1.length := by omega
        have hjM : (j : Int) < (m : Int) := by have := HML.out; omega
        have hjMN : j < m := by have := HML.out; omega
        have a5 : Int.tdiv (p : Int) 8 = (j : Int) := by rw [Int.tdiv_eq_ediv_of_nonneg (by omega)]; exact a3
        have a6 : Int.tmod (p : Int) 8 = (r : Int) := by rw [Int.tmod_eq_emod_of_nonneg (by omega)]; exact a4
        have a7 : IntKind.i64.wrap (j : Int) = (j : Int) := IntWalk.i64_in _ (by omega)
        have a8 : IntKind.i64.wrap (r : Int) = (r : Int) := IntWalk.i64_in _ (by omega)
        obtain ⟨b0, hb0⟩ : ∃ b0, b0 = l.getD j 0 := ⟨_, rfl⟩
        obtain ⟨b2, hb2⟩ : ∃ b2, b2 = UInt8.ofNat (2 ^ r) := ⟨_, rfl⟩
        obtain ⟨y, hy⟩ : ∃ y, y = b0 ^^^ b2 := ⟨_, rfl⟩
        have a9 : IntKind.u8.wrap ((2 : Int) ^ r) = (b2.toNat : Int) := by rw [hb2]; exact or_wrap_pow hr8
        have a10 : bits .xor .u8 (b0.toNat : Int) (b2.toNat : Int) = (y.toNat : Int) := by
          have h1 := b0.toNat_lt
          have h2 := b2.toNat_lt
          rw [hy, UInt8.toNat_xor, u8_xor_nat _ _ (by omega) (by omega)]
        have HB0 := Lib.hid hb0
        have HB2 := Lib.hid hb2
        have HY := Lib.hid hy
        clear hb0 hb2 hy
        have e0 : ((1 : Nat) : Int) = 1 := rfl
        go_wp2_with fail
        apply Rg.region_own 11 (fun W => Up w5 W) (fun g => g = g5) (Beg g5 l) rfl (by kernel_rfl) (by kernel_rfl) (by rintro g rfl; exact hbr.lt) hbr (fun w1 w2 h hs => h.sta hs (.inr rfl)) (fun w2 hK => keepsUpX (wq := wr.drew) (hur.trans (Up.refl _).drew) (Nat.le_of_eq hg7) hK)
        · intro QN hQN
          iterate 4 (apply Rg.RK.ok; (· intro vs w1 hS; go_simp; with_reducible rfl); (· rfl); simp only [Act.put, List.setIfInBounds_toArray, List.set_cons_zero, List.set_cons_succ, Nat.reduceAdd])
          apply Rg.RK.okU [11]
          · intro vs w1 hS hf
            have hb := hf.1
            have hb1 : Beg g5 l w1 := hb
            have hb2 := hb1.cell hpl
            rw [← HB0.out] at hb2
            have hb3 : w1.cell? ⟨g5, j, none⟩ = some (.int .u8 (b0.toNat : Int)) := hb2
            clear hb2
            go_simp
            with_reducible rfl
          · rfl
          simp only [Act.put, List.setIfInBounds_toArray, List.set_cons_zero, List.set_cons_succ, Nat.reduceAdd]
          iterate 4 (apply Rg.RK.ok; (· intro vs w1 hS; go_simp; with_reducible rfl); (· rfl); simp only [Act.put, List.setIfInBounds_toArray, List.set_cons_zero, List.set_cons_succ, Nat.reduceAdd])
          (apply Rg.RK.ok; (· intro vs w1 hS; go_simp; with_reducible rfl); (· rfl); simp only [Act.put, List.setIfInBounds_toArray, List.set_cons_zero, List.set_cons_succ, Nat.reduceAdd])
          apply Rg.RK.opD (fun vs W => Beg g5 (l.set j y) W) (fun vs g => g = g5) [11] [11] [] (fun _ _ _ => ⟨rfl, rfl⟩)
          · exact fun vs W1 W2 h hs => h.sta hs (.inr rfl)
          · rfl
          · intro vs w2 hK hS hf K hKK
            have hb1 : Beg g5 l w2 := hf.1
            have r0 := hb1.cell hpl
            have r1 := hb1.free hpl
            have r2 := hb1.set hpl y
            rw [show bv y = .int .u8 (y.toNat : Int) from rfl] at r2
            have r3 := setc_keeps w2 w2 g5 j (.int .u8 (y.toNat : Int)) (Rg.Keeps.refl _ _)
            go_simp
            refine hKK.out undef _ r2 (Keeps.weak r3 fun x hx => ⟨11, List.mem_singleton.2 rfl, hx⟩) (fun x hx => ⟨?_, .inr ⟨11, List.mem_singleton.2 rfl, hx⟩⟩)
            have hxx : x = g5 := hx
            rw [hxx]; exact r2.lt
          simp only [Act.put, List.setIfInBounds_toArray, List.set_cons_zero, List.set_cons_succ, Nat.reduceAdd]
          apply Rg.RK.fin [10]
          intro vs w8 hK hS hf
          obtain ⟨hbn, -⟩ := hf
          refine hQN.out _ _ ?_
          clear hQN
          have hbn2 : Beg g5 (l.set j y) w8 := hbn
          have e : flipsB F1 (([q0, q1, q2].take (1 + 1)).filter fun q => decide (q < Z)) = l.set j y := by
            rw [show [q0, q1, q2].take (1 + 1) = [q0, q1, q2].take 1 ++ [q1] from rfl, List.filter_append, List.filter_cons, if_pos (by simpa using hqZ), List.filter_nil, flipsB_snoc, HLL.out]
            unfold flipB
            rw [← HP.out, ← HJ.out, ← HR.out, ← HB0.out, ← HB2.out, ← HY.out]
          have hLn : w8.heap[gL]? = some (.cells #[.int .i64 xi, .int .i64 xj, .int .i64 xk] 3 (0, 0)) := (hK.block gL (Array.getElem?_eq_some_iff.1 hLr).1 hneL).trans hLr
          rw [← e] at hbn2
          clear hbn hK hLr hbr
          go_wp2_with fail
          go_roundw
          case rel => exact ⟨1 + 1, by go_num, by omega, hS, hbn2, hLn⟩
          case measure => simp [intOf]
        · kernel_rfl
      · have e : (([q0, q1, q2].take (1 + 1)).filter fun q => decide (q < Z)) = (([q0, q1, q2].take 1).filter fun q => decide (q < Z)) := by
          rw [show [q0, q1, q2].take (1 + 1) = [q0, q1, q2].take 1 ++ [q1] from rfl, List.filter_append, List.filter_cons, if_neg (by simpa using hqZ), List.filter_nil, List.append_nil]
        have hcx : wr.cell? ⟨gL, 1, none⟩ = some (.int .i64 xj) := blk_cell hLr 1
        rw [← e] at hbr
        have hpZi : ¬ (q1 : Int) < (Z : Int) := by omega
        have a2 : IntKind.i64.wrap (q1 : Int) = (q1 : Int) := IntWalk.i64_in _ (by omega)
        have e0 : ((1 : Nat) : Int) = 1 := rfl
        clear e
        go_wp2_with fail
        go_roundw
        case rel => exact ⟨1 + 1, by go_num, by omega, hur, hbr, hLr⟩
        case measure => simp [intOf]
    · by_cases hqZ : q2 < Z
      · have hlt := flipsB_len (([q0, q1, q2].take 2).filter fun q => decide (q < Z)) F1
        have hcx : wr.cell? ⟨gL, 2, none⟩ = some (.int .i64 xk) := blk_cell hLr 2
        generalize hl : flipsB F1 (([q0, q1, q2].take 2).filter fun q => decide (q < Z)) = l at *
        have HLL := Lib.hid hl
        clear hl
        obtain ⟨p, hp⟩ : ∃ p, p = q2 := ⟨_, rfl⟩
        have hpl : p / 8 < l.length := by have h1 := HZ.out; have h2 := HML.out; omega
        have hpZ : p < Z := by rw [hp]; exact hqZ
        have hpZi : (p : Int) < (Z : Int) := by omega
        replace hq2 : (P : Int) + (C2 : Int) = (p : Int) := by rw [hq2, hp]
        have a2 : IntKind.i64.wrap (p : Int) = (p : Int) := IntWalk.i64_in _ (by omega)
        obtain ⟨j, hj⟩ : ∃ j, j = p / 8 := ⟨_, rfl⟩
        obtain ⟨r, hr⟩ : ∃ r, r = p % 8 := ⟨_, rfl⟩
        have hr8 : r < 8 := by omega
        have a3 : (p : Int) / 8 = (j : Int) := by omega
        have a4 : (p : Int) % 8 = (r : Int) := by omega
        rw [← hj] at hpl
        have hjl : (j : Int) < (l.length : Int) := by omega
        have HJ := Lib.hid hj
        have HR := Lib.hid hr
        have HP := Lib.hid hp
        clear hj hr hp
        have hjS : (j : Int) < (F1.length : Int) := by omega
        have hjN : j < F1.length := by omega
        have hjM : (j : Int) < (m : Int) := by have := HML.out; omega
        have hjMN : j < m := by have := HML.out; omega
        have a5 : Int.tdiv (p : Int) 8 = (j : Int) := by rw [Int.tdiv_eq_ediv_of_nonneg (by omega)]; exact a3
        have a6 : Int.tmod (p : Int) 8 = (r : Int) := by rw [Int.tmod_eq_emod_of_nonneg (by omega)]; exact a4
        have a7 : IntKind.i64.wrap (j : Int) = (j : Int) := IntWalk.i64_in _ (by omega)
        have a8 : IntKind.i64.wrap (r : Int) = (r : Int) := IntWalk.i64_in _ (by omega)
        obtain ⟨b0, hb0⟩ : ∃ b0, b0 = l.getD j 0 := ⟨_, rfl⟩
        obtain ⟨b2, hb2⟩ : ∃ b2, b2 = UInt8.ofNat (2 ^ r) := ⟨_, rfl⟩
        obtain ⟨y, hy⟩ : ∃ y, y = b0 ^^^ b2 := ⟨_, rfl⟩
        have a9 : IntKind.u8.wrap ((2 : Int) ^ r) = (b2.toNat : Int) := by rw [hb2]; exact or_wrap_pow hr8
        have a10 : bits .xor .u8 (b0.toNat : Int) (b2.toNat : Int) = (y.toNat : Int) := by
          have h1 := b0.toNat_lt
          have h2 := b2.toNat_lt
          rw [hy, UInt8.toNat_xor, u8_xor_nat _ _ (by omega) (by omega)]
        have HB0 := Lib.hid hb0
        have HB2 := Lib.hid hb2
        have HY := Lib.hid hy
        clear hb0 hb2 hy
        have e0 : ((2 : Nat) : Int) = 2 := rfl
        go_wp2_with fail
        apply Rg.region_own 11 (fun W => Up w5 W) (fun g => g = g5) (Beg g5 l) rfl (by kernel_rfl) (by kernel_rfl) (by rintro g rfl; exact hbr.lt) hbr (fun w1 w2 h hs => h.sta hs (.inr rfl)) (fun w2 hK => keepsUpX (wq := wr.drew) (hur.trans (Up.refl _).drew) (Nat.le_of_eq hg7) hK)
        · intro QN hQN
          iterate 4 (apply Rg.RK.ok; (· intro vs w1 hS; go_simp; with_reducible rfl); (· rfl); simp only [Act.put, List.setIfInBounds_toArray, List.set_cons_zero, List.set_cons_succ, Nat.reduceAdd])
          apply Rg.RK.okU [11]
          · intro vs w1 hS hf
            have hb := hf.1
            have hb1 : Beg g5 l w1 := hb
            have hb2 := hb1.cell hpl
            rw [← HB0.out] at hb2
            have hb3 : w1.cell? ⟨g5, j, none⟩ = some (.int .u8 (b0.toNat : Int)) := hb2
            clear hb2
            go_simp
            with_reducible rfl
          · rfl
          simp only [Act.put, List.setIfInBounds_toArray, List.set_cons_zero, List.set_cons_succ, Nat.reduceAdd]
          iterate 4 (apply Rg.RK.ok; (· intro vs w1 hS; go_simp; with_reducible rfl); (· rfl); simp only [Act.put, List.setIfInBounds_toArray, List.set_cons_zero, List.set_cons_succ, Nat.reduceAdd])
          (apply Rg.RK.ok; (· intro vs w1 hS; go_simp; with_reducible rfl); (· rfl); simp only [Act.put, List.setIfInBounds_toArray, List.set_cons_zero, List.set_cons_succ, Nat.reduceAdd])
          apply Rg.RK.opD (fun vs W => Beg g5 (l.set j y) W) (fun vs g => g = g5) [11] [11] [] (fun _ _ _ => ⟨rfl, rfl⟩)
          · exact fun vs W1 W2 h hs => h.sta hs (.inr rfl)
          · rfl
          · intro vs w2 hK hS hf K hKK
            have hb1 : Beg g5 l w2 := hf.1
            have r0 := hb1.cell hpl
            have r1 := hb1.free hpl
            have r2 := hb1.set hpl y
            rw [show bv y = .int .u8 (y.toNat : Int) from rfl] at r2
            have r3 := setc_keeps w2 w2 g5 j (.int .u8 (y.toNat : Int)) (Rg.Keeps.refl _ _)
            go_simp
            refine hKK.out undef _ r2 (Keeps.weak r3 fun x hx => ⟨11, List.mem_singleton.2 rfl, hx⟩) (fun x hx => ⟨?_, .inr ⟨11, List.mem_singleton.2 rfl, hx⟩⟩)
            have hxx : x = g5 := hx
            rw [hxx]; exact r2.lt
          simp only [Act.put, List.setIfInBounds_toArray, List.set_cons_zero, List.set_cons_succ, Nat.reduceAdd]
          apply Rg.RK.fin [10]
          intro vs w8 hK hS hf
          obtain ⟨hbn, -⟩ := hf
          refine hQN.out _ _ ?_
          clear hQN
          have hbn2 : Beg g5 (l.set j y) w8 := hbn
          have e : flipsB F1 (([q0, q1, q2].take (2 + 1)).filter fun q => decide (q < Z)) = l.set j y := by
            rw [show [q0, q1, q2].take (2 + 1) = [q0, q1, q2].take 2 ++ [q2] from rfl, List.filter_append, List.filter_cons, if_pos (by simpa using hqZ), List.filter_nil, flipsB_snoc, HLL.out]
            unfold flipB
            rw [← HP.out, ← HJ.out, ← HR.out, ← HB0.out, ← HB2.out, ← HY.out]
          have hLn : w8.heap[gL]? = some (.cells #[.int .i64 xi, .int .i64 xj, .int .i64 xk] 3 (0, 0)) := (hK.block gL (Array.getElem?_eq_some_iff.1 hLr).1 hneL).trans hLr
          rw [← e] at hbn2
          clear hbn hK hLr hbr
          go_wp2_with fail
          go_roundw
          case rel => exact ⟨2 + 1, by go_num, by omega, hS, hbn2, hLn⟩
          case measure => simp [intOf]
        · kernel_rfl
      · have e : (([q0, q1, q2].take (2 + 1)).filter fun q => decide (q < Z)) = (([q0, q1, q2].take 2).filter fun q => decide (q < Z)) := by
          rw [show [q0, q1, q2].take (2 + 1) = [q0, q1, q2].take 2 ++ [q2] from rfl, List.filter_append, List.filter_cons, if_neg (by simpa using hqZ), List.filter_nil, List.append_nil]
        have hcx : wr.cell? ⟨gL, 2, none⟩ = some (.int .i64 xk) := blk_cell hLr 2
        rw [← e] at hbr
        have hpZi : ¬ (q2 : Int) < (Z : Int) := by omega
        have a2 : IntKind.i64.wrap (q2 : Int) = (q2 : Int) := IntWalk.i64_in _ (by omega)
        have e0 : ((2 : Nat) : Int) = 2 := rfl
        clear e
        go_wp2_with fail
        go_roundw
        case rel => exact ⟨2 + 1, by go_num, by omega, hur, hbr, hLr⟩
        case measure => simp [intOf]
    · obtain ⟨ps, hpsd⟩ : ∃ ps, ps = (([q0, q1, q2].take 3).filter fun q => decide (q < Z)) := ⟨_, rfl⟩
      rw [← hpsd] at hbr
      have hps : ∀ p ∈ ps, p < 8 * F1.length := by
        intro p hp
        rw [hpsd] at hp
        have h1 := (List.mem_filter.1 hp).2
        have h2 := of_decide_eq_true h1
        have h3 := HZ.out
        have h4 := HML.out
        omega
      have hp3 : ps.length ≤ 3 := by
        rw [hpsd]
        exact Nat.le_trans (List.length_filter_le _ _) (by simp)
      have hl3 := HLAW.out ps hp3 hps
      have hfl := flipsB_len ps F1
      generalize flipsB F1 ps = fl at *
      have hrd := hbr.rd
      rw [hfl, ← HML.out] at hrd
      have hup7 := hup5.trans hur
      have HRD := Lib.hid (tread_any (some ⟨g5, 0, none⟩) m c6 fl wr hrd (by omega) hcap)
      clear hbr hps hLr hC0 hC1 hC2 hq0 hq1 hq2 a10 a11 a12 hg7 HLAW hfl hup5 hpsd hp3
      go_wp2_with fail
      refine HRD.out.mono ?_
      intro e w8 h8
      unfold TrPost at h8
      rcases hl3 with he | hn
      · rw [he, HRT.out] at h8
        obtain ⟨g, m3, rc3, N3, R3, rs, rfl, hd, hg, hO, hrw, hq, hN3, hu8⟩ := h8
        have hrd8 := hrd.up hu8
        have hcv : (convert 22 9 (.slice (some ⟨g5, 0, none⟩) m c6)).run Tryz.prog w8 = .ok (.string (tx fl)) _ := run_str c6 hrd8
        have hup8 := hup7.trans hu8
        have s2 := tx_beq he
        clear hd hg hO hrw hq hN3 he hrd hup7 hu8 hrd8 HRD
        go_wp2_with fail
        refine (awake12_any w8).mono ?_
        rintro e w11 ⟨rfl, hu11⟩
        go_wp2_with fail
        go_ret
        exact ⟨rfl, hup8.trans hu11⟩
      · have he : fl ≠ F1 := fun h => by rw [h, HRT.out] at hn; cases hn
        rw [hn] at h8
        obtain ⟨rfl, hu8⟩ := h8
        have hrd8 := hrd.up hu8
        have hcv : (convert 22 9 (.slice (some ⟨g5, 0, none⟩) m c6)).run Tryz.prog w8 = .ok (.string (tx fl)) _ := run_str c6 hrd8
        have hup8 := hup7.trans hu8
        have s2 := tx_bne he
        clear he hn hrd hup7 hu8 hrd8 HRD
        go_wp2_with fail
        refine (awake12_any w8).mono ?_
        rintro e w11 ⟨rfl, hu11⟩
        go_wp2_with fail
        go_ret
        exact ⟨rfl, hup8.trans hu11⟩
end Go.Proofs.YtfmjgkfblejknaaGreat.tableBits

/-
  'clepsydra/clepsydralaw12.TableBits': for every input the law returns true; each argument reads behind the call as it read before. No condition.
-/
namespace Go.Proofs.YtfmjgkfblejknaaGreat.tableBits
open Go.ChangeShapes Go.WideShapes Go.ChangeAt Go.RowKit
open Go.ChangeMaps (open_string shut_string)
set_option linter.unusedVariables false

set_option maxRecDepth 100000 in
theorem lifted (os : Os) (started : os.Started) (H : Type) (enc : TypeId × Value → H) :
    ReturnsInHanded {} Tryz.checked os 4 .any (Rows.tableBitsSpec.pre6 enc Tryz.prog Tryz.f4 Rows.tableBitsRow.domain false) (Rows.tableBitsSpec.post enc Tryz.prog Tryz.f4 false true false false) := by
  refine returnsInHanded_of_change (C := Tryz.checked) prog_own started (by kernel_rfl) Tryz.func4
    (ChangeSpec.witness6 (enc := enc) (C := Tryz.checked) false ⟨#[], #[.slice none 0 0, .int .i64 0, .int .i64 0, .int .i64 0, .int .i64 0], []⟩ 8 (by kernel_rfl) (by kernel_rfl) (by kernel_rfl) (by kernel_rfl)) ?_
  intro W base args ds gs before hval0 hW hcnd _
  have hval : ∀ (j : Nat) t v, Tryz.f4.params[j]? = some t → args[j]? = some v → Value.okWide Tryz.prog W .any base t v := hval0
  have hW' := hW
  obtain ⟨p, q, hA0, hV, rfl, hfz, hnd⟩ := hW
  have hA : DataW.TrodAll enc Tryz.prog W 0 (fun _ => true) true Tryz.f4.params.toList args.toList ds p := hA0
  rw [Tryz.params4] at hA hval
  obtain ⟨v0, vs0, d0, ds0, p0, q0, hargs, rfl, rfl, h0, r0⟩ := trodAll_cons hA
  obtain ⟨v1, vs1, d1, ds1, p1, q1, rfl, rfl, rfl, h1, r1⟩ := trodAll_cons r0
  obtain ⟨v2, vs2, d2, ds2, p2, q2, rfl, rfl, rfl, h2, r2⟩ := trodAll_cons r1
  obtain ⟨v3, vs3, d3, ds3, p3, q3, rfl, rfl, rfl, h3, r3⟩ := trodAll_cons r2
  obtain ⟨v4, vs4, d4, ds4, p4, q4, rfl, rfl, rfl, h4, r4⟩ := trodAll_cons r3
  obtain ⟨rfl, rfl, rfl⟩ := trodAll_nil r4
  obtain rfl : args = #[v0, v1, v2, v3, v4] := by cases args; simp_all
  obtain ⟨rfl, rfl⟩ := trodVars_none hV
  obtain ⟨a0, len0, cap0, rfl⟩ := okWide_slice Tryz.underlying23 (hval 0 23 v0 rfl rfl)
  have k0 := h0
  have lt0 : ∀ x ∈ p0, x.block < W.heap.size := by obtain ⟨m, hm⟩ := k0; exact DataW.trod_lt m _ _ _ hm
  obtain ⟨l0, w0⟩ := is_i h0
  obtain ⟨a1, rfl, rfl, rfl, w1⟩ := open_int Tryz.underlying3 (hval 1 3 v1 rfl rfl) h1
  have b1 := bd_i64 w1
  obtain ⟨a2, rfl, rfl, rfl, w2⟩ := open_int Tryz.underlying3 (hval 2 3 v2 rfl rfl) h2
  have b2 := bd_i64 w2
  obtain ⟨a3, rfl, rfl, rfl, w3⟩ := open_int Tryz.underlying3 (hval 3 3 v3 rfl rfl) h3
  have b3 := bd_i64 w3
  obtain ⟨a4, rfl, rfl, rfl, w4⟩ := open_int Tryz.underlying3 (hval 4 3 v4 rfl rfl) h4
  have b4 := bd_i64 w4
  clear hA0 hval0
  refine (law_any a0 len0 cap0 l0 a1 a2 a3 a4 W w0 b1 b2 b3 b4).mono fun e W' ⟨he, bel⟩ => ?_
  subst he
  exact ⟨_, rfl, _, _, _, [], _, [], hW', trodAll_mk1 (shut_bool Tryz.underlying4 _), (trodAll_cons_mk (Below.trod laidOut (by kernel_rfl) (of_decide_eq_true (by kernel_rfl)) k0 bel lt0) (trodAll_cons_mk (shut_int Tryz.underlying3 w1) (trodAll_cons_mk (shut_int Tryz.underlying3 w2) (trodAll_cons_mk (shut_int Tryz.underlying3 w3) (trodAll_cons_mk (shut_int Tryz.underlying3 w4) trodAll_mk0))))), rfl, bel.frame _, fun h => by cases h⟩

theorem proved : Rows.TableBitsSaid :=
  OpenClaim.holds_of_wide 4 Tryz.f4 rfl rfl rfl rfl rfl rfl rfl ⟨rfl, rfl, rfl, rfl, rfl⟩ rfl rfl rfl rfl rfl (by kernel_rfl) Tryz.func4 (by kernel_rfl)
    (of_decide_eq_true (by kernel_rfl)) (by unfold Func.isWrapper; first | (rw [if_pos (by decide +kernel)]; kernel_rfl) | (rw [if_neg (by decide +kernel)]; exact ⟨rfl, rfl⟩))
    (fun os started H enc _ => lifted os started H enc)
#print axioms proved
end Go.Proofs.YtfmjgkfblejknaaGreat.tableBits
