/-
  The law FrameBits: the walk.
-/
import Derived.Test.YtkapaklikgckgaaFrameLaw3
import Derived.Test.YtkapaklikgckgaaFrameW12
import Derived.Test.YtkapaklikgckgaaNumLaw
import Derived.IntWalk
namespace Go.Proofs.Ytkapaklikgckgaa.frameBits
open Go.RowKit
set_option linter.unusedVariables false
set_option linter.unusedSimpArgs false

/-- blocks that were written are newer than w -/
theorem keeps_fresh {w wq w2 : World} {gx : Nat} (hu : Up w wq) (hg : w.heap.size ≤ gx) (hK : Rg.Keeps (fun g => g = gx) wq w2) : Up w w2 :=
  ⟨hK.os.trans hu.os, hK.tape.trans hu.tape, hK.output.trans hu.output, Nat.le_trans hu.size hK.size, fun k hk => (hK.block k (Nat.lt_of_lt_of_le hk hu.size) (by show ¬ k = gx; omega)).trans (hu.block k hk)⟩

theorem wrap_pow {r : Nat} (hr : r < 8) : IntKind.u8.wrap ((2 : Int) ^ r) = ((UInt8.ofNat (2 ^ r)).toNat : Int) := by
  rw [(pow_bits r hr).2, IntKind.wrap_u8]
  have h : r = 0 ∨ r = 1 ∨ r = 2 ∨ r = 3 ∨ r = 4 ∨ r = 5 ∨ r = 6 ∨ r = 7 := by omega
  rcases h with rfl | rfl | rfl | rfl | rfl | rfl | rfl | rfl <;> decide

/-- a cell of a row of the call's own, in whatever grows out of that world -/
theorem own_cells {w : World} {base n c : Nat} {e : TypeId} {A : Option Addr} {xs : List Value} (h : w.ownsRow base e 1 (.slice A n c) n xs) (hn : 0 < n) : ∃ g, A = some ⟨g, 0, none⟩ ∧ ∀ (i : Nat) (u : Value), xs[i]? = some u → ∀ W, Up w W → W.cell? ⟨g, i, none⟩ = some u := by
  obtain ⟨g, rfl, _, hg⟩ := own_some h hn
  refine ⟨g, rfl, fun j u hj W hW => ?_⟩
  have hrd := Rd.own h
  obtain ⟨b, o, e, hb, hc⟩ := hrd.2 hn
  injection e with e
  injection e with e1 e2
  subst e1; subst e2
  have h1 := hc j u hj
  rw [Nat.zero_add] at h1
  exact (hW.cell (p := ⟨g, j, none⟩) hg).trans h1

set_option maxRecDepth 100000 in
set_option maxHeartbeats 800000 in
theorem law_any (A : Option Addr) (n c : Nat) (ps : List Pt) (which xi xj xk : Int) (w : World) (hr : IsR w A n c ps) (b1 : -9223372036854775808 ≤ which ∧ which ≤ 9223372036854775807) (b2 : -9223372036854775808 ≤ xi ∧ xi ≤ 9223372036854775807)
    (b3 : -9223372036854775808 ≤ xj ∧ xj ≤ 9223372036854775807) (b4 : -9223372036854775808 ≤ xk ∧ xk ≤ 9223372036854775807) :
    Calls Try.prog 8 #[.slice A n c, .int .i64 which, .int .i64 xi, .int .i64 xj, .int .i64 xk] w fun e w' => e = .returned (.bool true) ∧ Up w w' := by
  have hn : n ≤ 9223372036854775807 := by have := hr.2.2; omega
  cases hok : madeOk (ptls ps) 6
  · have HMD := Lib.hid (made_no A n c ps 6 w hr hn (by omega) hok)
    clear hok hr
    go_enter Try.func8, Try.ntmps8
    go_wp2_with fail
    refine HMD.out.mono ?_
    rintro e w1 ⟨rfl, hu1⟩
    go_wp2_with (go_at_call 9; with_reducible refine (awake3_any _).mono ?_; rintro e w4 ⟨rfl, hu4⟩)
    go_ret
    exact ⟨rfl, hu1.trans hu4⟩
  · obtain ⟨L, hL, hx, hm, hle, HMD⟩ := made_yes A n c ps 6 w hr hn (by omega) hok
    have hfull : (frsB 0 L).length = endAt L L.length := by unfold endAt; rw [List.take_length]
    rw [← hfull] at hle
    obtain ⟨M, hM⟩ : ∃ M, M = L.length := ⟨_, rfl⟩
    rw [← hM] at hm HMD hfull
    have HM := Lib.hid hM
    have HL := Lib.hid hL
    have HF := Lib.hid hfull
    have HX := Lib.hid hx
    clear hM hL hfull hok hx
    by_cases hM0 : M = 0
    · go_enter Try.func8, Try.ntmps8
      go_wp2_with fail
      refine HMD.out.mono ?_
      rintro e w1 ⟨R, rc, rfl, hown, hu1⟩
      clear hown
      go_wp2_with (go_at_call 9; with_reducible refine (awake3_any _).mono ?_; rintro e w4 ⟨rfl, hu4⟩)
      go_ret
      exact ⟨rfl, hu1.trans hu4⟩
    · obtain ⟨C, hC, _⟩ := i64_and_le which 255 (by omega)
      replace hC : bits .and .i64 which 255 = (C : Int) := hC
      obtain ⟨m, hm2, hmM⟩ : ∃ m : Nat, (C : Int) % (M : Int) = (m : Int) ∧ m < M := ⟨C % M, by rw [Int.natCast_emod], Nat.mod_lt C (by omega)⟩
      have hM1 : ¬ ((M : Int) = 0) := by omega
      have hM2 : ¬ ((M : Int) + 1 < 2) := by omega
      go_enter Try.func8, Try.ntmps8
      go_wp2_with fail
      refine HMD.out.mono ?_
      rintro e w1 ⟨R, rc, rfl, hown, hu1⟩
      obtain ⟨gE, rfl, hE⟩ := ends_at hown rfl
      clear hown
      obtain ⟨c5, w5, hconv, hcap, hbeg, hu5⟩ := conv_beg w1 (frsB 0 L)
      have hg5 : w.heap.size ≤ w1.heap.size := hu1.size
      have hg6 : w1.heap.size ≤ w1.heap.size := Nat.le_refl _
      generalize hg7 : w1.heap.size = g5 at hconv hbeg hg5 hg6
      have hEm := hE m (by omega)
      have hEn := hE (m + 1) (by omega)
      have hmono : endAt L (m + 1) ≤ endAt L M := endAt_mono (by omega) (by have := HM.out; omega)
      have hsnoc := endAt_snoc L (show m < L.length by rw [← HM.out]; exact hmM)
      have hlast := hle
      rw [HF.out] at hlast
      obtain ⟨E0, hE0⟩ : ∃ E0, E0 = endAt L m := ⟨_, rfl⟩
      obtain ⟨E1, hE1⟩ : ∃ E1, E1 = endAt L (m + 1) := ⟨_, rfl⟩
      rw [← hE0] at hEm hsnoc
      rw [← hE1] at hEn hsnoc hmono
      have HE0 := Lib.hid hE0
      have HE1 := Lib.hid hE1
      clear hE0 hE1
      obtain ⟨Z, hZ⟩ : ∃ Z, Z = 8 * (E1 - E0) := ⟨_, rfl⟩
      have hEE : E0 + 12 ≤ E1 := by omega
      have hE1b : E1 ≤ 1872 := by omega
      have hE1S : E1 ≤ (frsB 0 L).length := by rw [HF.out]; exact hmono
      clear hsnoc hmono hlast
      obtain ⟨P0, hP0⟩ : ∃ P0, P0 = 8 * E0 := ⟨_, rfl⟩
      obtain ⟨D0, hD0⟩ : ∃ D0, D0 = E1 - E0 := ⟨_, rfl⟩
      go_wp2_with fail
      simp only [hm2]
      have a1 : (m : Int) < (M : Int) + 1 := by omega
      have a2 : m < M + 1 := by omega
      have a3 : (m : Int) + 1 < (M : Int) + 1 := by omega
      have a4 : m + 1 < M + 1 := by omega
      have a5 : ((m : Int) + 1).toNat = m + 1 := by omega
      have a6 : (0 : Int) ≤ (m : Int) + 1 := by omega
      have a7 : IntKind.i64.wrap ((m : Int) + 1) = (m : Int) + 1 := IntWalk.i64_in _ (by omega)
      have a8 : IntKind.i64.wrap (8 * (E0 : Int)) = (P0 : Int) := by rw [IntWalk.i64_in _ (by omega)]; omega
      have a9 : IntKind.i64.wrap ((E1 : Int) - (E0 : Int)) = (D0 : Int) := by rw [IntWalk.i64_in _ (by omega)]; omega
      have a10 : IntKind.i64.wrap (8 * (D0 : Int)) = (Z : Int) := by rw [IntWalk.i64_in _ (by omega)]; omega
      have HZ := Lib.hid (show Z = 8 * D0 by omega)
      have HP0 := Lib.hid hP0
      have HD0 := Lib.hid hD0
      clear hZ hP0 hD0
      apply Rg.region_up (fun W => Up w5 W ∧ W.cell? ⟨gE, m, none⟩ = some (.int .i64 (E0 : Int)) ∧ W.cell? ⟨gE, m + 1, none⟩ = some (.int .i64 (E1 : Int))) (by kernel_rfl) (by kernel_rfl) (fun W h => ⟨h, hEm W (hu5.trans h), hEn W (hu5.trans h)⟩)
      · intro QN hQN
        iterate 18 (apply Rg.RK.ok; (· intro vs w1 hS; go_simp; with_reducible rfl); (· rfl); simp only [Act.put, List.setIfInBounds_toArray, List.set_cons_zero, List.set_cons_succ, Nat.reduceAdd])
        apply Rg.RK.fin []
        intro vs w9 hK hS _
        refine hQN.out _ _ ?_
        clear hQN
        obtain ⟨hu55, -, -⟩ := hS
        have hlen1 : (frsB 0 L).length ≤ 1872 := hle
        have hbeg6 := hbeg.up hu55
        go_wp2_with fail
        have hu6 : Up w1 (w9.alloc (.cells #[.int .i64 xi, .int .i64 xj, .int .i64 xk] 3)) := (hu5.trans hu55).trans ((Up.refl _).alloc _)
        have hbeg7 : Beg g5 (frsB 0 L) (w9.alloc (.cells #[.int .i64 xi, .int .i64 xj, .int .i64 xk] 3)) := hbeg6.up ((Up.refl _).alloc _)
        have hgL : (w9.alloc (.cells #[.int .i64 xi, .int .i64 xj, .int .i64 xk] 3)).heap[w9.heap.size]? = some (.cells #[.int .i64 xi, .int .i64 xj, .int .i64 xk] 3 (0, 0)) := Array.getElem?_push_size
        have hne : g5 < w9.heap.size := hbeg6.lt
        have hneL : ¬ w9.heap.size = g5 := by omega
        generalize w9.alloc (.cells #[.int .i64 xi, .int .i64 xj, .int .i64 xk] 3) = w6 at *
        generalize w9.heap.size = gL at *
        clear hbeg6 hbeg hu55 hK hu5 hconv hle hEm hEn
        obtain ⟨C0, hC0, _⟩ := i64_and_le xi 16777215 (by omega)
        obtain ⟨C1, hC1, _⟩ := i64_and_le xj 16777215 (by omega)
        obtain ⟨C2, hC2, _⟩ := i64_and_le xk 16777215 (by omega)
        replace hC0 : bits .and .i64 xi 16777215 = (C0 : Int) := hC0
        replace hC1 : bits .and .i64 xj 16777215 = (C1 : Int) := hC1
        replace hC2 : bits .and .i64 xk 16777215 = (C2 : Int) := hC2
        have hZ0 : 0 < Z := by have := HZ.out; have := HD0.out; omega
        have hZ1 : ¬ ((Z : Int) = 0) := by omega
        obtain ⟨q0, hq0, hq0Z⟩ : ∃ q : Nat, (C0 : Int) % (Z : Int) = (q : Int) ∧ q < Z := ⟨C0 % Z, by rw [Int.natCast_emod], Nat.mod_lt C0 hZ0⟩
        obtain ⟨q1, hq1, hq1Z⟩ : ∃ q : Nat, (C1 : Int) % (Z : Int) = (q : Int) ∧ q < Z := ⟨C1 % Z, by rw [Int.natCast_emod], Nat.mod_lt C1 hZ0⟩
        obtain ⟨q2, hq2, hq2Z⟩ : ∃ q : Nat, (C2 : Int) % (Z : Int) = (q : Int) ∧ q < Z := ⟨C2 % Z, by rw [Int.natCast_emod], Nat.mod_lt C2 hZ0⟩
        have hPZ : P0 + Z ≤ 8 * (frsB 0 L).length := by have := HZ.out; have := HD0.out; have := HP0.out; omega
        go_loopw [69] (fun i wr => ∃ t : Nat, i = .int .i64 (t : Int) ∧ t ≤ 3 ∧ Up w1 wr ∧ Beg g5 (flipsB (frsB 0 L) ([P0 + q0, P0 + q1, P0 + q2].take t)) wr ∧ wr.heap[gL]? = some (.cells #[.int .i64 xi, .int .i64 xj, .int .i64 xk] 3 (0, 0))) (fun i _ => 3 - (intOf i).toNat)
        case atStart => exact ⟨0, rfl, by omega, hu6, hbeg7, hgL⟩
        case round =>
          obtain ⟨t, rfl, ht, hur, hbr, hLr⟩ := hrel
          have hcases : t = 0 ∨ t = 1 ∨ t = 2 ∨ t = 3 := by omega
          rcases hcases with rfl | rfl | rfl | rfl
          · have hlt := flipsB_len ([P0 + q0, P0 + q1, P0 + q2].take 0) (frsB 0 L)
            have hcx : wr.cell? ⟨gL, 0, none⟩ = some (.int .i64 xi) := blk_cell hLr 0
            generalize hl : flipsB (frsB 0 L) ([P0 + q0, P0 + q1, P0 + q2].take 0) = l at *
            have HLL := Lib.hid hl
            clear hl
            obtain ⟨p, hp⟩ : ∃ p, p = P0 + q0 := ⟨_, rfl⟩
            have hpl : p / 8 < l.length := by omega
            have a1 : (P0 : Int) + (q0 : Int) = (p : Int) := by omega
            have a2 : IntKind.i64.wrap (p : Int) = (p : Int) := IntWalk.i64_in _ (by omega)
            obtain ⟨j, hj⟩ : ∃ j, j = p / 8 := ⟨_, rfl⟩
            obtain ⟨r, hr⟩ : ∃ r, r = p % 8 := ⟨_, rfl⟩
            have hr8 : r < 8 := by omega
            have a3 : (p : Int) / 8 = (j : Int) := by omega
            have a4 : (p : Int) % 8 = (r : Int) := by omega
            rw [← hj] at hpl
            have hjl : (j : Int) < (l.length : Int) := by omega
            have HJ := Lib.hid hj
            have HR := Lib.hid hr
            have HP := Lib.hid hp
            clear hj hr hp
            have hjS : (j : Int) < ((frsB 0 L).length : Int) := by omega
            have hjN : j < (frsB 0 L).length := by omega
            have a5 : Int.tdiv (p : Int) 8 = (j : Int) := by rw [Int.tdiv_eq_ediv_of_nonneg (by omega)]; exact a3
            have a6 : Int.tmod (p : Int) 8 = (r : Int) := by rw [Int.tmod_eq_emod_of_nonneg (by omega)]; exact a4
            have a7 : IntKind.i64.wrap (j : Int) = (j : Int) := IntWalk.i64_in _ (by omega)
            have a8 : IntKind.i64.wrap (r : Int) = (r : Int) := IntWalk.i64_in _ (by omega)
            obtain ⟨b0, hb0⟩ : ∃ b0, b0 = l.getD j 0 := ⟨_, rfl⟩
            obtain ⟨b2, hb2⟩ : ∃ b2, b2 = UInt8.ofNat (2 ^ r) := ⟨_, rfl⟩
            obtain ⟨y, hy⟩ : ∃ y, y = b0 ^^^ b2 := ⟨_, rfl⟩
            have a9 : IntKind.u8.wrap ((2 : Int) ^ r) = (b2.toNat : Int) := by rw [hb2]; exact wrap_pow hr8
            have a10 : bits .xor .u8 (b0.toNat : Int) (b2.toNat : Int) = (y.toNat : Int) := by
              have h1 := b0.toNat_lt
              have h2 := b2.toNat_lt
              rw [hy, UInt8.toNat_xor, u8_xor_nat _ _ (by omega) (by omega)]
            have HB0 := Lib.hid hb0
            have HB2 := Lib.hid hb2
            have HY := Lib.hid hy
            clear hb0 hb2 hy
            have e0 : ((0 : Nat) : Int) = 0 := rfl
            go_wp2_with fail
            simp only [e0, hq0]
            apply Rg.region_own 11 (fun W => Up w1 W) (fun g => g = g5) (Beg g5 l) rfl (by kernel_rfl) (by kernel_rfl) (by rintro g rfl; exact hbr.lt) hbr (fun w1 w2 h hs => h.sta hs (.inr rfl)) (fun w2 hK => keeps_fresh (wq := wr.drew) (hur.trans (Up.refl _).drew) (Nat.le_of_eq hg7) hK)
            · intro QN hQN
              iterate 4 (apply Rg.RK.ok; (· intro vs w1 hS; go_simp; with_reducible rfl); (· rfl); simp only [Act.put, List.setIfInBounds_toArray, List.set_cons_zero, List.set_cons_succ, Nat.reduceAdd])
              apply Rg.RK.okU [11]
              · intro vs w1 hS hf
                have hb := hf.1
                have hb1 : Beg g5 l w1 := hb
                have hb2 := hb1.cell hpl
                rw [← HB0.out] at hb2
                have hb3 : w1.cell? ⟨g5, j, none⟩ = some (.int .u8 (b0.toNat : Int)) := hb2
                clear hb2
                go_simp
                with_reducible rfl
              · rfl
              simp only [Act.put, List.setIfInBounds_toArray, List.set_cons_zero, List.set_cons_succ, Nat.reduceAdd]
              iterate 4 (apply Rg.RK.ok; (· intro vs w1 hS; go_simp; with_reducible rfl); (· rfl); simp only [Act.put, List.setIfInBounds_toArray, List.set_cons_zero, List.set_cons_succ, Nat.reduceAdd])
              (apply Rg.RK.ok; (· intro vs w1 hS; go_simp; with_reducible rfl); (· rfl); simp only [Act.put, List.setIfInBounds_toArray, List.set_cons_zero, List.set_cons_succ, Nat.reduceAdd])
              apply Rg.RK.opD (fun vs W => Beg g5 (l.set j y) W) (fun vs g => g = g5) [11] [11] [] (fun _ _ _ => ⟨rfl, rfl⟩)
              · exact fun vs W1 W2 h hs => h.sta hs (.inr rfl)
              · rfl
              · intro vs w2 hK hS hf K hKK
                have hb1 : Beg g5 l w2 := hf.1
                have r0 := hb1.cell hpl
                have r1 := hb1.free hpl
                have r2 := hb1.set hpl y
                rw [show bv y = .int .u8 (y.toNat : Int) from rfl] at r2
                have r3 := setc_keeps w2 w2 g5 j (.int .u8 (y.toNat : Int)) (Rg.Keeps.refl _ _)
                go_simp
                refine hKK.out undef _ r2 (Keeps.weak r3 fun x hx => ⟨11, List.mem_singleton.2 rfl, hx⟩) (fun x hx => ⟨?_, .inr ⟨11, List.mem_singleton.2 rfl, hx⟩⟩)
                have hxx : x = g5 := hx
                rw [hxx]; exact r2.lt
              simp only [Act.put, List.setIfInBounds_toArray, List.set_cons_zero, List.set_cons_succ, Nat.reduceAdd]
              apply Rg.RK.fin [10]
              intro vs w8 hK hS hf
              obtain ⟨hbn, -⟩ := hf
              refine hQN.out _ _ ?_
              clear hQN
              have hbn2 : Beg g5 (l.set j y) w8 := hbn
              have e : flipsB (frsB 0 L) ([P0 + q0, P0 + q1, P0 + q2].take (0 + 1)) = l.set j y := by
                show flipB (flipsB (frsB 0 L) ([P0 + q0, P0 + q1, P0 + q2].take 0)) (P0 + q0) = _
                rw [HLL.out]
                unfold flipB
                rw [← HP.out, ← HJ.out, ← HR.out, ← HB0.out, ← HB2.out, ← HY.out]
              have hLn : w8.heap[gL]? = some (.cells #[.int .i64 xi, .int .i64 xj, .int .i64 xk] 3 (0, 0)) := (hK.block gL (Array.getElem?_eq_some_iff.1 hLr).1 hneL).trans hLr
              rw [← e] at hbn2
              clear hbn hK hLr hbr
              go_wp2_with fail
              go_roundw
              case rel => exact ⟨0 + 1, by go_num, by omega, hS, hbn2, hLn⟩
              case measure => simp [intOf]
            · kernel_rfl
          · have hlt := flipsB_len ([P0 + q0, P0 + q1, P0 + q2].take 1) (frsB 0 L)
            have hcx : wr.cell? ⟨gL, 1, none⟩ = some (.int .i64 xj) := blk_cell hLr 1
            generalize hl : flipsB (frsB 0 L) ([P0 + q0, P0 + q1, P0 + q2].take 1) = l at *
            have HLL := Lib.hid hl
            clear hl
            obtain ⟨p, hp⟩ : ∃ p, p = P0 + q1 := ⟨_, rfl⟩
            have hpl : p / 8 < l.length := by omega
            have a1 : (P0 : Int) + (q1 : Int) = (p : Int) := by omega
            have a2 : IntKind.i64.wrap (p : Int) = (p : Int) := IntWalk.i64_in _ (by omega)
            obtain ⟨j, hj⟩ : ∃ j, j = p / 8 := ⟨_, rfl⟩
            obtain ⟨r, hr⟩ : ∃ r, r = p % 8 := ⟨_, rfl⟩
            have hr8 : r < 8 := by omega
            have a3 : (p : Int) / 8 = (j : Int) := by omega
            have a4 : (p : Int) % 8 = (r : Int) := by omega
            rw [← hj] at hpl
            have hjl : (j : Int) < (l.length : Int) := by omega
            have HJ := Lib.hid hj
            have HR := Lib.hid hr
            have HP := Lib.hid hp
            clear hj hr hp
            have hjS : (j : Int) < ((frsB 0 L).length : Int) := by omega
            have hjN : j < (frsB 0 L).length := by omega
            have a5 : Int.tdiv (p : Int) 8 = (j : Int) := by rw [Int.tdiv_eq_ediv_of_nonneg (by omega)]; exact a3
            have a6 : Int.tmod (p : Int) 8 = (r : Int) := by rw [Int.tmod_eq_emod_of_nonneg (by omega)]; exact a4
            have a7 : IntKind.i64.wrap (j : Int) = (j : Int) := IntWalk.i64_in _ (by omega)
            have a8 : IntKind.i64.wrap (r : Int) = (r : Int) := IntWalk.i64_in _ (by omega)
            obtain ⟨b0, hb0⟩ : ∃ b0, b0 = l.getD j 0 := ⟨_, rfl⟩
            obtain ⟨b2, hb2⟩ : ∃ b2, b2 = UInt8.ofNat (2 ^ r) := ⟨_, rfl⟩
            obtain ⟨y, hy⟩ : ∃ y, y = b0 ^^^ b2 := ⟨_, rfl⟩
            have a9 : IntKind.u8.wrap ((2 : Int) ^ r) = (b2.toNat : Int) := by rw [hb2]; exact wrap_pow hr8
            have a10 : bits .xor .u8 (b0.toNat : Int) (b2.toNat : Int) = (y.toNat : Int) := by
              have h1 := b0.toNat_lt
              have h2 := b2.toNat_lt
              rw [hy, UInt8.toNat_xor, u8_xor_nat _ _ (by omega) (by omega)]
            have HB0 := Lib.hid hb0
            have HB2 := Lib.hid hb2
            have HY := Lib.hid hy
            clear hb0 hb2 hy
            have e0 : ((1 : Nat) : Int) = 1 := rfl
            go_wp2_with fail
            simp only [e0, hq1]
            apply Rg.region_own 11 (fun W => Up w1 W) (fun g => g = g5) (Beg g5 l) rfl (by kernel_rfl) (by kernel_rfl) (by rintro g rfl; exact hbr.lt) hbr (fun w1 w2 h hs => h.sta hs (.inr rfl)) (fun w2 hK => keeps_fresh (wq := wr.drew) (hur.trans (Up.refl _).drew) (Nat.le_of_eq hg7) hK)
            · intro QN hQN
              iterate 4 (apply Rg.RK.ok; (· intro vs w1 hS; go_simp; with_reducible rfl); (· rfl); simp only [Act.put, List.setIfInBounds_toArray, List.set_cons_zero, List.set_cons_succ, Nat.reduceAdd])
              apply Rg.RK.okU [11]
              · intro vs w1 hS hf
                have hb := hf.1
                have hb1 : Beg g5 l w1 := hb
                have hb2 := hb1.cell hpl
                rw [← HB0.out] at hb2
                have hb3 : w1.cell? ⟨g5, j, none⟩ = some (.int .u8 (b0.toNat : Int)) := hb2
                clear hb2
                go_simp
                with_reducible rfl
              · rfl
              simp only [Act.put, List.setIfInBounds_toArray, List.set_cons_zero, List.set_cons_succ, Nat.reduceAdd]
              iterate 4 (apply Rg.RK.ok; (· intro vs w1 hS; go_simp; with_reducible rfl); (· rfl); simp only [Act.put, List.setIfInBounds_toArray, List.set_cons_zero, List.set_cons_succ, Nat.reduceAdd])
              (apply Rg.RK.ok; (· intro vs w1 hS; go_simp; with_reducible rfl); (· rfl); simp only [Act.put, List.setIfInBounds_toArray, List.set_cons_zero, List.set_cons_succ, Nat.reduceAdd])
              apply Rg.RK.opD (fun vs W => Beg g5 (l.set j y) W) (fun vs g => g = g5) [11] [11] [] (fun _ _ _ => ⟨rfl, rfl⟩)
              · exact fun vs W1 W2 h hs => h.sta hs (.inr rfl)
              · rfl
              · intro vs w2 hK hS hf K hKK
                have hb1 : Beg g5 l w2 := hf.1
                have r0 := hb1.cell hpl
                have r1 := hb1.free hpl
                have r2 := hb1.set hpl y
                rw [show bv y = .int .u8 (y.toNat : Int) from rfl] at r2
                have r3 := setc_keeps w2 w2 g5 j (.int .u8 (y.toNat : Int)) (Rg.Keeps.refl _ _)
                go_simp
                refine hKK.out undef _ r2 (Keeps.weak r3 fun x hx => ⟨11, List.mem_singleton.2 rfl, hx⟩) (fun x hx => ⟨?_, .inr ⟨11, List.mem_singleton.2 rfl, hx⟩⟩)
                have hxx : x = g5 := hx
                rw [hxx]; exact r2.lt
              simp only [Act.put, List.setIfInBounds_toArray, List.set_cons_zero, List.set_cons_succ, Nat.reduceAdd]
              apply Rg.RK.fin [10]
              intro vs w8 hK hS hf
              obtain ⟨hbn, -⟩ := hf
              refine hQN.out _ _ ?_
              clear hQN
              have hbn2 : Beg g5 (l.set j y) w8 := hbn
              have e : flipsB (frsB 0 L) ([P0 + q0, P0 + q1, P0 + q2].take (1 + 1)) = l.set j y := by
                show flipB (flipsB (frsB 0 L) ([P0 + q0, P0 + q1, P0 + q2].take 1)) (P0 + q1) = _
                rw [HLL.out]
                unfold flipB
                rw [← HP.out, ← HJ.out, ← HR.out, ← HB0.out, ← HB2.out, ← HY.out]
              have hLn : w8.heap[gL]? = some (.cells #[.int .i64 xi, .int .i64 xj, .int .i64 xk] 3 (0, 0)) := (hK.block gL (Array.getElem?_eq_some_iff.1 hLr).1 hneL).trans hLr
              rw [← e] at hbn2
              clear hbn hK hLr hbr
              go_wp2_with fail
              go_roundw
              case rel => exact ⟨1 + 1, by go_num, by omega, hS, hbn2, hLn⟩
              case measure => simp [intOf]
            · kernel_rfl
          · have hlt := flipsB_len ([P0 + q0, P0 + q1, P0 + q2].take 2) (frsB 0 L)
            have hcx : wr.cell? ⟨gL, 2, none⟩ = some (.int .i64 xk) := blk_cell hLr 2
            generalize hl : flipsB (frsB 0 L) ([P0 + q0, P0 + q1, P0 + q2].take 2) = l at *
            have HLL := Lib.hid hl
            clear hl
            obtain ⟨p, hp⟩ : ∃ p, p = P0 + q2 := ⟨_, rfl⟩
            have hpl : p / 8 < l.length := by omega
            have a1 : (P0 : Int) + (q2 : Int) = (p : Int) := by omega
            have a2 : IntKind.i64.wrap (p : Int) = (p : Int) := IntWalk.i64_in _ (by omega)
            obtain ⟨j, hj⟩ : ∃ j, j = p / 8 := ⟨_, rfl⟩
            obtain ⟨r, hr⟩ : ∃ r, r = p % 8 := ⟨_, rfl⟩
            have hr8 : r < 8 := by omega
            have a3 : (p : Int) / 8 = (j : Int) := by omega
            have a4 : (p : Int) % 8 = (r : Int) := by omega
            rw [← hj] at hpl
            have hjl : (j : Int) < (l.length : Int) := by omega
            have HJ := Lib.hid hj
            have HR := Lib.hid hr
            have HP := Lib.hid hp
            clear hj hr hp
            have hjS : (j : Int) < ((frsB 0 L).length : Int) := by omega
            have hjN : j < (frsB 0 L).length := by omega
            have a5 : Int.tdiv (p : Int) 8 = (j : Int) := by rw [Int.tdiv_eq_ediv_of_nonneg (by omega)]; exact a3
            have a6 : Int.tmod (p : Int) 8 = (r : Int) := by rw [Int.tmod_eq_emod_of_nonneg (by omega)]; exact a4
            have a7 : IntKind.i64.wrap (j : Int) = (j : Int) := IntWalk.i64_in _ (by omega)
            have a8 : IntKind.i64.wrap (r : Int) = (r : Int) := IntWalk.i64_in _ (by omega)
            obtain ⟨b0, hb0⟩ : ∃ b0, b0 = l.getD j 0 := ⟨_, rfl⟩
            obtain ⟨b2, hb2⟩ : ∃ b2, b2 = UInt8.ofNat (2 ^ r) := ⟨_, rfl⟩
            obtain ⟨y, hy⟩ : ∃ y, y = b0 ^^^ b2 := ⟨_, rfl⟩
            have a9 : IntKind.u8.wrap ((2 : Int) ^ r) = (b2.toNat : Int) := by rw [hb2]; exact wrap_pow hr8
            have a10 : bits .xor .u8 (b0.toNat : Int) (b2.toNat : Int) = (y.toNat : Int) := by
              have h1 := b0.toNat_lt
              have h2 := b2.toNat_lt
              rw [hy, UInt8.toNat_xor, u8_xor_nat _ _ (by omega) (by omega)]
            have HB0 := Lib.hid hb0
            have HB2 := Lib.hid hb2
            have HY := Lib.hid hy
            clear hb0 hb2 hy
            have e0 : ((2 : Nat) : Int) = 2 := rfl
            go_wp2_with fail
            simp only [e0, hq2]
            apply Rg.region_own 11 (fun W => Up w1 W) (fun g => g = g5) (Beg g5 l) rfl (by kernel_rfl) (by kernel_rfl) (by rintro g rfl; exact hbr.lt) hbr (fun w1 w2 h hs => h.sta hs (.inr rfl)) (fun w2 hK => keeps_fresh (wq := wr.drew) (hur.trans (Up.refl _).drew) (Nat.le_of_eq hg7) hK)
            · intro QN hQN
              iterate 4 (apply Rg.RK.ok; (· intro vs w1 hS; go_simp; with_reducible rfl); (· rfl); simp only [Act.put, List.setIfInBounds_toArray, List.set_cons_zero, List.set_cons_succ, Nat.reduceAdd])
              apply Rg.RK.okU [11]
              · intro vs w1 hS hf
                have hb := hf.1
                have hb1 : Beg g5 l w1 := hb
                have hb2 := hb1.cell hpl
                rw [← HB0.out] at hb2
                have hb3 : w1.cell? ⟨g5, j, none⟩ = some (.int .u8 (b0.toNat : Int)) := hb2
                clear hb2
                go_simp
                with_reducible rfl
              · rfl
              simp only [Act.put, List.setIfInBounds_toArray, List.set_cons_zero, List.set_cons_succ, Nat.reduceAdd]
              iterate 4 (apply Rg.RK.ok; (· intro vs w1 hS; go_simp; with_reducible rfl); (· rfl); simp only [Act.put, List.setIfInBounds_toArray, List.set_cons_zero, List.set_cons_succ, Nat.reduceAdd])
              (apply Rg.RK.ok; (· intro vs w1 hS; go_simp; with_reducible rfl); (· rfl); simp only [Act.put, List.setIfInBounds_toArray, List.set_cons_zero, List.set_cons_succ, Nat.reduceAdd])
              apply Rg.RK.opD (fun vs W => Beg g5 (l.set j y) W) (fun vs g => g = g5) [11] [11] [] (fun _ _ _ => ⟨rfl, rfl⟩)
              · exact fun vs W1 W2 h hs => h.sta hs (.inr rfl)
              · rfl
              · intro vs w2 hK hS hf K hKK
                have hb1 : Beg g5 l w2 := hf.1
                have r0 := hb1.cell hpl
                have r1 := hb1.free hpl
                have r2 := hb1.set hpl y
                rw [show bv y = .int .u8 (y.toNat : Int) from rfl] at r2
                have r3 := setc_keeps w2 w2 g5 j (.int .u8 (y.toNat : Int)) (Rg.Keeps.refl _ _)
                go_simp
                refine hKK.out undef _ r2 (Keeps.weak r3 fun x hx => ⟨11, List.mem_singleton.2 rfl, hx⟩) (fun x hx => ⟨?_, .inr ⟨11, List.mem_singleton.2 rfl, hx⟩⟩)
                have hxx : x = g5 := hx
                rw [hxx]; exact r2.lt
              simp only [Act.put, List.setIfInBounds_toArray, List.set_cons_zero, List.set_cons_succ, Nat.reduceAdd]
              apply Rg.RK.fin [10]
              intro vs w8 hK hS hf
              obtain ⟨hbn, -⟩ := hf
              refine hQN.out _ _ ?_
              clear hQN
              have hbn2 : Beg g5 (l.set j y) w8 := hbn
              have e : flipsB (frsB 0 L) ([P0 + q0, P0 + q1, P0 + q2].take (2 + 1)) = l.set j y := by
                show flipB (flipsB (frsB 0 L) ([P0 + q0, P0 + q1, P0 + q2].take 2)) (P0 + q2) = _
                rw [HLL.out]
                unfold flipB
                rw [← HP.out, ← HJ.out, ← HR.out, ← HB0.out, ← HB2.out, ← HY.out]
              have hLn : w8.heap[gL]? = some (.cells #[.int .i64 xi, .int .i64 xj, .int .i64 xk] 3 (0, 0)) := (hK.block gL (Array.getElem?_eq_some_iff.1 hLr).1 hneL).trans hLr
              rw [← e] at hbn2
              clear hbn hK hLr hbr
              go_wp2_with fail
              go_roundw
              case rel => exact ⟨2 + 1, by go_num, by omega, hS, hbn2, hLn⟩
              case measure => simp [intOf]
            · kernel_rfl
          · rw [show ([P0 + q0, P0 + q1, P0 + q2].take 3) = [P0 + q0, P0 + q1, P0 + q2] from rfl] at hbr
            clear hLr hC0 hC1 hC2 hq0 hq1 hq2 a7 a8 a9 a10
            have hlm : m < L.length := by rw [← HM.out]; exact hmM
            have hps : ∀ p ∈ [q0, q1, q2], p < 8 * (endAt L (m + 1) - endAt L m) := by
              have h8 : 8 * (endAt L (m + 1) - endAt L m) = Z := by rw [HZ.out, HD0.out, HE0.out, HE1.out]
              rw [h8]
              intro p hp
              simp only [List.mem_cons, List.not_mem_nil, or_false] at hp
              rcases hp with rfl | rfl | rfl <;> assumption
            have hmap : [q0, q1, q2].map (8 * endAt L m + ·) = [P0 + q0, P0 + q1, P0 + q2] := by
              have h8 : 8 * endAt L m = P0 := by rw [HP0.out, HE0.out]
              rw [h8]; rfl
            have hlaw := split_flips L (fun x hxx => Nat.le_trans (HX.out x hxx) (by omega)) hlm (ps := [q0, q1, q2]) (Nat.le_refl 3) hps
            rw [hmap] at hlaw
            have hfl := flipsB_len [P0 + q0, P0 + q1, P0 + q2] (frsB 0 L)
            generalize flipsB (frsB 0 L) [P0 + q0, P0 + q1, P0 + q2] = fl at *
            have hrd := hbr.rd
            rw [hfl] at hrd
            have hE6 := hE m (by omega)
            rw [← HE0.out] at hE6
            clear hbr hps hmap
            have HLN := Lib.hid hfl
            clear hfl
            go_wp2_with fail
            refine (split_any (some ⟨g5, 0, none⟩) (frsB 0 L).length c5 fl wr hrd (by omega) (by omega)).mono ?_
            rintro e w4 ⟨K6, kn, kc, R6, rn6, rc6, ps6, rfl, hK6, hR6, hP6, hu4⟩
            have hcv4 : (convert 22 9 (.slice (some ⟨g5, 0, none⟩) (frsB 0 L).length c5)).run Try.prog w4 = .ok (.string (tx fl)) w4 := run_str c5 (hrd.up hu4)
            rcases hlaw with ⟨he, hs⟩ | ⟨he, ee, hee, hs⟩
            · have k1 : kn = M := by have h := hK6.1; rw [hs] at h; unfold nvi at h; rw [List.length_map, kindsL_len, ← HM.out, Nat.mul_one] at h; exact h.symm
              subst k1
              have s1 : (splitL fl).2.2.2 = 0 := by rw [hs]
              have s2 := tx_beq he
              rw [s1]
              generalize (splitL fl).2.2.1 = sE at *
              clear hK6 hR6 hP6 hs s1 he HLN hrd
              go_wp2_with (go_at_call 9; with_reducible refine (awake3_any _).mono ?_; rintro e w5 ⟨rfl, hu5⟩)
              go_ret
              exact ⟨rfl, ((hu1.trans hur).trans hu4).trans hu5⟩
            · have s1 : (splitL fl).2.2.2 = ee := by rw [hs]
              have s2 := tx_bne he
              have s3 : (splitL fl).2.2.1 = E0 := by rw [hs, HE0.out]
              have s4 : (splitL fl).2.1 = L.take m := by rw [hs]
              rw [s1, s3]
              have s5 : ¬ ((ee : Int) = 0) := by omega
              have hc6 := hE6 w4 (hur.trans hu4)
              have k3 : rn6 = m := by have h := hR6.1; rw [List.length_map] at h; have h2 := congrArg List.length hP6.1; rw [s4, List.length_map, List.length_take] at h2; omega
              subst k3
              have S4 := Lib.hid s4
              clear s1 s3 s4 hs he hrd hE6 hK6 HLN
              go_wp2_with fail
              go_loopw [25] (fun i wr => ∃ x : Nat, i = .int .i64 (x : Int) ∧ x ≤ rn6 ∧ Up w4 wr) (fun i _ => rn6 - (intOf i).toNat)
              case atStart => exact ⟨0, rfl, by omega, Up.refl _⟩
              case round =>
                obtain ⟨x, rfl, hxm, hux⟩ := hrel
                by_cases hxl : x < rn6
                · obtain ⟨gR, rfl, hcR⟩ := own_cells hR6 (by omega)
                  have hlen := hr.len
                  have hLm : M ≤ n := by rw [HM.out, HL.out, List.length_take]; omega
                  obtain ⟨bA, oA, pA, rfl, hpA, hpA2, hpn, hpl, hpc, hpW⟩ := hr.at_ (k := x) (by omega)
                  have hj6 : x < ps6.length := by have h := hR6.1; rw [List.length_map] at h; omega
                  have e2 := hcR x ps6[x].v (by rw [List.getElem?_map, List.getElem?_eq_getElem hj6]; rfl)
                  have ho := hP6.2 ps6[x] (List.getElem_mem _)
                  have hl : ps6[x].l = pA.l := by
                    have h := congrArg (fun l => l[x]?) hP6.1
                    rw [S4.out] at h
                    simp only [List.getElem?_map, List.getElem?_eq_getElem hj6, Option.map_some] at h
                    rw [List.getElem?_take_of_lt hxl, HL.out, List.getElem?_take_of_lt (by omega), hpA2] at h
                    injection h
                  rw [hl] at ho
                  generalize ps6[x] = p5 at *
                  obtain ⟨A5, n5, c55, l5⟩ := p5
                  have hrd5 := ho.rd
                  have hut := (hu1.trans hur).trans hu4
                  simp only [] at hrd5 e2
                  have hS2 : ∀ W, Up wr W → Up wr W ∧ W.cell? ⟨gR, x, none⟩ = some (.slice A5 n5 c55) ∧ W.cell? ⟨bA, oA + x, none⟩ = some (.slice pA.A pA.n pA.c) := fun W h =>
                    ⟨h, e2 W (hux.trans h), (hpW W (hut.trans (hux.trans h))).1⟩
                  have hrA : ∀ W, Up wr W → Rd W W.heap.size 1 A5 n5 (bvs pA.l) := fun W h => hrd5.up (hux.trans h)
                  have hrB : ∀ W, Up wr W → Rd W W.heap.size 1 pA.A pA.n (bvs pA.l) := fun W h => (hpW W (hut.trans (hux.trans h))).2
                  have q4 : (x : Int) < (rn6 : Int) := by omega
                  have q5 : decide ((x : Int) < (rn6 : Int)) = true := by simp; omega
                  have q6 : (x : Int) < (n : Int) := by omega
                  have q7 : x < n := by omega
                  have hs7 : ((tx pA.l).toList == (tx pA.l).toList) = true := tx_beq rfl
                  generalize pA.l = lA at *
                  generalize pA.A = AA at *
                  generalize pA.n = nA at *
                  generalize pA.c = cA at *
                  clear e2 ho hl hcR hrd5 hR6 hP6 hpW hlen hpA hpA2 hpn hpl
                  go_wp2_with fail
                  apply Rg.region_up _ (by kernel_rfl) (by kernel_rfl) hS2
                  · intro QN hQN
                    iterate 4 (apply Rg.RK.ok; (· intro vs w1 hS; go_simp; with_reducible rfl); (· rfl); simp only [Act.put, List.setIfInBounds_toArray, List.set_cons_zero, List.set_cons_succ, Nat.reduceAdd])
                    apply Rg.RK.ok (v := .string (tx (lA)))
                    · intro vs w1 hS
                      exact exec_str rfl rfl (hrA _ hS.1)
                    · rfl
                    simp only [Act.put, List.setIfInBounds_toArray, List.set_cons_zero, List.set_cons_succ, Nat.reduceAdd]
                    iterate 4 (apply Rg.RK.ok; (· intro vs w1 hS; go_simp; with_reducible rfl); (· rfl); simp only [Act.put, List.setIfInBounds_toArray, List.set_cons_zero, List.set_cons_succ, Nat.reduceAdd])
                    apply Rg.RK.ok (v := .string (tx (lA)))
                    · intro vs w1 hS
                      exact exec_str rfl rfl (hrB _ hS.1)
                    · rfl
                    simp only [Act.put, List.setIfInBounds_toArray, List.set_cons_zero, List.set_cons_succ, Nat.reduceAdd]
                    (apply Rg.RK.ok; (· intro vs w1 hS; go_simp; with_reducible rfl); (· rfl); simp only [Act.put, List.setIfInBounds_toArray, List.set_cons_zero, List.set_cons_succ, Nat.reduceAdd])
                    apply Rg.RK.fin []
                    intro vs w1 hK hS _
                    refine hQN.out _ _ ?_
                    clear hQN
                    go_wp2_with fail
                    go_roundw
                    case rel => exact ⟨x + 1, by go_num, by omega, hux.trans (keeps_up hK)⟩
                    case measure => simp [intOf]; omega
                  · kernel_rfl
                · have hxe : x = rn6 := by omega
                  have q6 : ¬ ((x : Int) < (rn6 : Int)) := by omega
                  clear hR6 hP6
                  go_wp2_with (go_at_call 9; with_reducible refine (awake3_any _).mono ?_; rintro e w5 ⟨rfl, hu5⟩)
                  go_ret
                  exact ⟨rfl, (((hu1.trans hur).trans hu4).trans hux).trans hu5⟩
      · kernel_rfl
end Go.Proofs.Ytkapaklikgckgaa.frameBits
