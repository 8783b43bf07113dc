/-
  'clepsydra/clepsydralaw11.BlockBits': for every input the law returns true; each argument reads behind the call as it read before. No condition.
-/
import Derived.IntWalk
import Derived.Test.YtijekbeofpaojaaZ4
/-
  The law BlockBits: the walk.
-/
namespace Go.Proofs.Ytijekbeofpaojaa.blockBits
open Go.RowKit
set_option linter.unusedVariables false
set_option linter.unusedSimpArgs false

theorem keepsUpM {w wq w2 : World} {gx : Nat} (hu : Up w wq) (hg : w.heap.size ≤ gx) (hK : Rg.Keeps (fun g => g = gx) wq w2) : Up w w2 :=
  ⟨hK.os.trans hu.os, hK.tape.trans hu.tape, hK.output.trans hu.output, Nat.le_trans hu.size hK.size, fun k hk => (hK.block k (Nat.lt_of_lt_of_le hk hu.size) (by show ¬ k = gx; omega)).trans (hu.block k hk)⟩
theorem wrap_pow {r : Nat} (hr : r < 8) : IntKind.u8.wrap ((2 : Int) ^ r) = ((UInt8.ofNat (2 ^ r)).toNat : Int) := by
  rw [(pow_bits r hr).2, IntKind.wrap_u8]
  have h : r = 0 ∨ r = 1 ∨ r = 2 ∨ r = 3 ∨ r = 4 ∨ r = 5 ∨ r = 6 ∨ r = 7 := by omega
  rcases h with rfl | rfl | rfl | rfl | rfl | rfl | rfl | rfl <;> decide
set_option maxRecDepth 100000 in
set_option maxHeartbeats 16000000 in
theorem law_any (A : Option Addr) (n c : Nat) (l : List It) (xi xj xk : Int) (w : World) (h0 : IsI w A n c l ∧ n ≤ 3518437208780) (b1 : -9223372036854775808 ≤ xi ∧ xi ≤ 9223372036854775807) (b2 : -9223372036854775808 ≤ xj ∧ xj ≤ 9223372036854775807) (b3 : -9223372036854775808 ≤ xk ∧ xk ≤ 9223372036854775807) :
    Calls Try.prog 4 #[.slice A n c, .int .i64 xi, .int .i64 xj, .int .i64 xk] w fun e w' => e = .returned (.bool true) ∧ Up w w' := by
  obtain ⟨⟨ha, hnc, -⟩, hn⟩ := h0
  clear b1 b2 b3
  go_enter Try.func4, Try.ntmps4
  go_wp2_with fail
  refine (one11_any A n c l w ha hnc hn).mono ?_
  intro e w1 ho
  obtain ⟨V, vm, vc, rfl, hu1, hR⟩ := rowsQ_any A n l w w1 ha hn ho
  clear ho ha
  go_wp2_with fail
  refine hR.mono ?_
  rintro e w2 ⟨R, rn, rc, rfl, hown, hu2⟩
  have hup2 := hu1.trans hu2
  have hq := Rd.own hown
  have hql := hq.ilen
  have hmay := rowsL_may l
  replace hmay : 0 < (qL l).length → (qL l).length ≤ 100 → bErr (qL l) = 0 := hmay
  generalize qL l = q at *
  have HQL := Lib.hid hql
  have HMAY := Lib.hid hmay
  clear hR hown hql hmay hu1 hu2
  by_cases hz : rn = 0
  · have d0 : ((rn : Int) == 0) = true := by simp [hz]
    go_wp2_with fail
    refine (awake11_any _).mono ?_
    rintro e w4 ⟨rfl, hu4⟩
    go_wp2_with fail
    go_ret
    exact ⟨rfl, hup2.trans hu4⟩
  have d0 : ((rn : Int) == 0) = false := by simp; omega
  by_cases hb : 100 < rn
  · have d1 : decide (100 < (rn : Int)) = true := by simp; omega
    go_wp2_with fail
    refine (awake11_any _).mono ?_
    rintro e w4 ⟨rfl, hu4⟩
    go_wp2_with fail
    go_ret
    exact ⟨rfl, hup2.trans hu4⟩
  have d1 : decide (100 < (rn : Int)) = false := by simp; omega
  have hbe : bErr q = 0 := HMAY.out (by have := HQL.out; omega) (by have := HQL.out; omega)
  have hrn : rn ≤ 100 := by omega
  go_wp2_with fail
  refine (rblock_any R rn rc q w2 hq hrn).mono ?_
  rintro e w5 ⟨rfl, hu5⟩
  have hdl := itemsB_blk q (bErr_ok hbe).1
  have hfl := frameB_len 2 (itemsB q)
  have hlaw := fun (ps : List Nat) (h3 : ps.length ≤ 3) (hb : ∀ p ∈ ps, p < 8 * (frameB 2 (itemsB q)).length) => blk_flips hbe h3 hb
  generalize frameB 2 (itemsB q) = F1 at *
  generalize (itemsB q).length = dN at *
  have HLAW := Lib.hid hlaw
  have hq5 := hq.up hu5
  have hup5 := hup2.trans hu5
  clear hq hup2 hu5 hlaw hbe hb hz d0 d1
  obtain ⟨c6, w6, hconv, hcap, hbeg, hu6⟩ := conv_beg w5 F1
  obtain ⟨m, hmL⟩ : ∃ m, m = F1.length := ⟨_, rfl⟩
  rw [← hmL] at hconv hcap hfl
  generalize hg7 : w5.heap.size = g5 at hconv hbeg
  have hmm : 12 ≤ m := by omega
  have hmx : m ≤ 50012 := by omega
  obtain ⟨Z, hZ⟩ : ∃ Z, Z = 8 * m := ⟨_, rfl⟩
  have a10 : IntKind.i64.wrap (8 * (m : Int)) = (Z : Int) := by rw [IntWalk.i64_in _ (by omega)]; omega
  have HZ := Lib.hid hZ
  have HML := Lib.hid hmL
  have HG7 := Lib.hid hg7
  have hF1 : F1.length ≤ 50012 := by omega
  obtain ⟨C0, hC0, _⟩ := i64_and_le xi 16777215 (by omega)
  obtain ⟨C1, hC1, _⟩ := i64_and_le xj 16777215 (by omega)
  obtain ⟨C2, hC2, _⟩ := i64_and_le xk 16777215 (by omega)
  replace hC0 : bits .and .i64 xi 16777215 = (C0 : Int) := hC0
  replace hC1 : bits .and .i64 xj 16777215 = (C1 : Int) := hC1
  replace hC2 : bits .and .i64 xk 16777215 = (C2 : Int) := hC2
  have hZ0 : 0 < Z := by omega
  have hZ1 : ¬ ((Z : Int) = 0) := by omega
  obtain ⟨q0, hq0, hq0Z⟩ : ∃ q : Nat, (C0 : Int) % (Z : Int) = (q : Int) ∧ q < Z := ⟨C0 % Z, by rw [Int.natCast_emod], Nat.mod_lt C0 hZ0⟩
  obtain ⟨q1, hq1, hq1Z⟩ : ∃ q : Nat, (C1 : Int) % (Z : Int) = (q : Int) ∧ q < Z := ⟨C1 % Z, by rw [Int.natCast_emod], Nat.mod_lt C1 hZ0⟩
  obtain ⟨q2, hq2, hq2Z⟩ : ∃ q : Nat, (C2 : Int) % (Z : Int) = (q : Int) ∧ q < Z := ⟨C2 % Z, by rw [Int.natCast_emod], Nat.mod_lt C2 hZ0⟩
  have hPZ : Z ≤ 8 * F1.length := by omega
  clear hmL hfl hdl hZ hg7
  go_wp2_with fail
  have hu7 : Up w5 (w6.alloc (.cells #[.int .i64 xi, .int .i64 xj, .int .i64 xk] 3)) := hu6.trans ((Up.refl _).alloc _)
  have hbeg7 : Beg g5 F1 (w6.alloc (.cells #[.int .i64 xi, .int .i64 xj, .int .i64 xk] 3)) := hbeg.up ((Up.refl _).alloc _)
  have hgL : (w6.alloc (.cells #[.int .i64 xi, .int .i64 xj, .int .i64 xk] 3)).heap[w6.heap.size]? = some (.cells #[.int .i64 xi, .int .i64 xj, .int .i64 xk] 3 (0, 0)) := Array.getElem?_push_size
  have hne : g5 < w6.heap.size := hbeg.lt
  have hneL : ¬ w6.heap.size = g5 := by omega
  generalize w6.alloc (.cells #[.int .i64 xi, .int .i64 xj, .int .i64 xk] 3) = w7 at *
  generalize w6.heap.size = gL at *
  clear hbeg hu6 hconv
  go_loopw [39] (fun i wr => ∃ t : Nat, i = .int .i64 (t : Int) ∧ t ≤ 3 ∧ Up w5 wr ∧ Beg g5 (flipsB F1 ([q0, q1, q2].take t)) wr ∧ wr.heap[gL]? = some (.cells #[.int .i64 xi, .int .i64 xj, .int .i64 xk] 3 (0, 0))) (fun i _ => 3 - (intOf i).toNat)
  case atStart => exact ⟨0, rfl, by omega, hu7, hbeg7, hgL⟩
  case round =>
    obtain ⟨t, rfl, ht, hur, hbr, hLr⟩ := hrel
    have hg7 := HG7.out
    have HF1 := Lib.hid hF1
    have hcases : t = 0 ∨ t = 1 ∨ t = 2 ∨ t = 3 := by omega
    rcases hcases with rfl | rfl | rfl | rfl
    · have hlt := flipsB_len ([q0, q1, q2].take 0) F1
      have hcx : wr.cell? ⟨gL, 0, none⟩ = some (.int .i64 xi) := blk_cell hLr 0
      generalize hl : flipsB F1 ([q0, q1, q2].take 0) = l at *
      have HLL := Lib.hid hl
      clear hl
      obtain ⟨p, hp⟩ : ∃ p, p = q0 := ⟨_, rfl⟩
      have hpl : p / 8 < l.length := by omega
      replace hq0 : (C0 : Int) % (Z : Int) = (p : Int) := by rw [hq0, hp]
      have a2 : IntKind.i64.wrap (p : Int) = (p : Int) := IntWalk.i64_in _ (by omega)
      obtain ⟨j, hj⟩ : ∃ j, j = p / 8 := ⟨_, rfl⟩
      obtain ⟨r, hr⟩ : ∃ r, r = p % 8 := ⟨_, rfl⟩
      have hr8 : r < 8 := by omega
      have a3 : (p : Int) / 8 = (j : Int) := by omega
      have a4 : (p : Int) % 8 = (r : Int) := by omega
      rw [← hj] at hpl
      have hjl : (j : Int) < (l.length : Int) := by omega
      have HJ := Lib.hid hj
      have HR := Lib.hid hr
      have HP := Lib.hid hp
      clear hj hr hp
      have hjS : (j : Int) < (F1.length : Int) := by omega
      have hjN : j < F1.length := by omega
      have hjM : (j : Int) < (m : Int) := by have := HML.out; omega
      have hjMN : j < m := by have := HML.out; omega
      have a5 : Int.tdiv (p : Int) 8 = (j : Int) := by rw [Int.tdiv_eq_ediv_of_nonneg (by omega)]; exact a3
      have a6 : Int.tmod (p : Int) 8 = (r : Int) := by rw [Int.tmod_eq_emod_of_nonneg (by omega)]; exact a4
      have a7 : IntKind.i64.wrap (j : Int) = (j : Int) := IntWalk.i64_in _ (by omega)
      have a8 : IntKind.i64.wrap (r : Int) = (r : Int) := IntWalk.i64_in _ (by omega)
      obtain ⟨b0, hb0⟩ : ∃ b0, b0 = l.getD j 0 := ⟨_, rfl⟩
      obtain ⟨b2, hb2⟩ : ∃ b2, b2 = UInt8.ofNat (2 ^ r) := ⟨_, rfl⟩
      obtain ⟨y, hy⟩ : ∃ y, y = b0 ^^^ b2 := ⟨_, rfl⟩
      have a9 : IntKind.u8.wrap ((2 : Int) ^ r) = (b2.toNat : Int) := by rw [hb2]; exact wrap_pow hr8
      have a10 : bits .xor .u8 (b0.toNat : Int) (b2.toNat : Int) = (y.toNat : Int) := by
        have h1 := b0.toNat_lt
        have h2 := b2.toNat_lt
        rw [hy, UInt8.toNat_xor, u8_xor_nat _ _ (by omega) (by omega)]
      have HB0 := Lib.hid hb0
      have HB2 := Lib.hid hb2
      have HY := Lib.hid hy
      clear hb0 hb2 hy
      have e0 : ((0 : Nat) : Int) = 0 := rfl
      go_wp2_with fail
      simp only [e0, hq0]
      apply Rg.region_own 11 (fun W => Up w5 W) (fun g => g = g5) (Beg g5 l) rfl (by kernel_rfl) (by kernel_rfl) (by rintro g rfl; exact hbr.lt) hbr (fun w1 w2 h hs => h.sta hs (.inr rfl)) (fun w2 hK => keepsUpM (wq := wr.drew) (hur.trans (Up.refl _).drew) (Nat.le_of_eq hg7) hK)
      · intro QN hQN
        iterate 4 (apply Rg.RK.ok; (· intro vs w1 hS; go_simp; with_reducible rfl); (· rfl); simp only [Act.put, List.setIfInBounds_toArray, List.set_cons_zero, List.set_cons_succ, Nat.reduceAdd])
        apply Rg.RK.okU [11]
        · intro vs w1 hS hf
          have hb := hf.1
          have hb1 : Beg g5 l w1 := hb
          have hb2 := hb1.cell hpl
          rw [← HB0.out] at hb2
          have hb3 : w1.cell? ⟨g5, j, none⟩ = some (.int .u8 (b0.toNat : Int)) := hb2
          clear hb2
          go_simp
          with_reducible rfl
        · rfl
        simp only [Act.put, List.setIfInBounds_toArray, List.set_cons_zero, List.set_cons_succ, Nat.reduceAdd]
        iterate 4 (apply Rg.RK.ok; (· intro vs w1 hS; go_simp; with_reducible rfl); (· rfl); simp only [Act.put, List.setIfInBounds_toArray, List.set_cons_zero, List.set_cons_succ, Nat.reduceAdd])
        (apply Rg.RK.ok; (· intro vs w1 hS; go_simp; with_reducible rfl); (· rfl); simp only [Act.put, List.setIfInBounds_toArray, List.set_cons_zero, List.set_cons_succ, Nat.reduceAdd])
        apply Rg.RK.opD (fun vs W => Beg g5 (l.set j y) W) (fun vs g => g = g5) [11] [11] [] (fun _ _ _ => ⟨rfl, rfl⟩)
        · exact fun vs W1 W2 h hs => h.sta hs (.inr rfl)
        · rfl
        · intro vs w2 hK hS hf K hKK
          have hb1 : Beg g5 l w2 := hf.1
          have r0 := hb1.cell hpl
          have r1 := hb1.free hpl
          have r2 := hb1.set hpl y
          rw [show bv y = .int .u8 (y.toNat : Int) from rfl] at r2
          have r3 := setc_keeps w2 w2 g5 j (.int .u8 (y.toNat : Int)) (Rg.Keeps.refl _ _)
          go_simp
          refine hKK.out undef _ r2 (Keeps.weak r3 fun x hx => ⟨11, List.mem_singleton.2 rfl, hx⟩) (fun x hx => ⟨?_, .inr ⟨11, List.mem_singleton.2 rfl, hx⟩⟩)
          have hxx : x = g5 := hx
          rw [hxx]; exact r2.lt
        simp only [Act.put, List.setIfInBounds_toArray, List.set_cons_zero, List.set_cons_succ, Nat.reduceAdd]
        apply Rg.RK.fin [10]
        intro vs w8 hK hS hf
        obtain ⟨hbn, -⟩ := hf
        refine hQN.out _ _ ?_
        clear hQN
        have hbn2 : Beg g5 (l.set j y) w8 := hbn
        have e : flipsB F1 ([q0, q1, q2].take (0 + 1)) = l.set j y := by
          show flipB (flipsB F1 ([q0, q1, q2].take 0)) q0 = _
          rw [HLL.out]
          unfold flipB
          rw [← HP.out, ← HJ.out, ← HR.out, ← HB0.out, ← HB2.out, ← HY.out]
        have hLn : w8.heap[gL]? = some (.cells #[.int .i64 xi, .int .i64 xj, .int .i64 xk] 3 (0, 0)) := (hK.block gL (Array.getElem?_eq_some_iff.1 hLr).1 hneL).trans hLr
        rw [← e] at hbn2
        clear hbn hK hLr hbr
        go_wp2_with fail
        go_roundw
        case rel => exact ⟨0 + 1, by go_num, by omega, hS, hbn2, hLn⟩
        case measure => simp [intOf]
      · kernel_rfl
    · have hlt := flipsB_len ([q0, q1, q2].take 1) F1
      have hcx : wr.cell? ⟨gL, 1, none⟩ = some (.int .i64 xj) := blk_cell hLr 1
      generalize hl : flipsB F1 ([q0, q1, q2].take 1) = l at *
      have HLL := Lib.hid hl
      clear hl
      obtain ⟨p, hp⟩ : ∃ p, p = q1 := ⟨_, rfl⟩
      have hpl : p / 8 < l.length := by omega
      replace hq1 : (C1 : Int) % (Z : Int) = (p : Int) := by rw [hq1, hp]
      have a2 : IntKind.i64.wrap (p : Int) = (p : Int) := IntWalk.i64_in _ (by omega)
      obtain ⟨j, hj⟩ : ∃ j, j = p / 8 := ⟨_, rfl⟩
      obtain ⟨r, hr⟩ : ∃ r, r = p % 8 := ⟨_, rfl⟩
      have hr8 : r < 8 := by omega
      have a3 : (p : Int) / 8 = (j : Int) := by omega
      have a4 : (p : Int) % 8 = (r : Int) := by omega
      rw [← hj] at hpl
      have hjl : (j : Int) < (l.length : Int) := by omega
      have HJ := Lib.hid hj
      have HR := Lib.hid hr
      have HP := Lib.hid hp
      clear hj hr hp
      have hjS : (j : Int) < (F1.length : Int) := by omega
      have hjN : j < F1.length := by omega
      have hjM : (j : Int) < (m : Int) := by have := HML.out; omega
      have hjMN : j < m := by have := HML.out; omega
      have a5 : Int.tdiv (p : Int) 8 = (j : Int) := by rw [Int.tdiv_eq_ediv_of_nonneg (by omega)]; exact a3
      have a6 : Int.tmod (p : Int) 8 = (r : Int) := by rw [Int.tmod_eq_emod_of_nonneg (by omega)]; exact a4
      have a7 : IntKind.i64.wrap (j : Int) = (j : Int) := IntWalk.i64_in _ (by omega)
      have a8 : IntKind.i64.wrap (r : Int) = (r : Int) := IntWalk.i64_in _ (by omega)
      obtain ⟨b0, hb0⟩ : ∃ b0, b0 = l.getD j 0 := ⟨_, rfl⟩
      obtain ⟨b2, hb2⟩ : ∃ b2, b2 = UInt8.ofNat (2 ^ r) := ⟨_, rfl⟩
      obtain ⟨y, hy⟩ : ∃ y, y = b0 ^^^ b2 := ⟨_, rfl⟩
      have a9 : IntKind.u8.wrap ((2 : Int) ^ r) = (b2.toNat : Int) := by rw [hb2]; exact wrap_pow hr8
      have a10 : bits .xor .u8 (b0.toNat : Int) (b2.toNat : Int) = (y.toNat : Int) := by
        have h1 := b0.toNat_lt
        have h2 := b2.toNat_lt
        rw [hy, UInt8.toNat_xor, u8_xor_nat _ _ (by omega) (by omega)]
      have HB0 := Lib.hid hb0
      have HB2 := Lib.hid hb2
      have HY := Lib.hid hy
      clear hb0 hb2 hy
      have e0 : ((1 : Nat) : Int) = 1 := rfl
      go_wp2_with fail
      simp only [e0, hq1]
      apply Rg.region_own 11 (fun W => Up w5 W) (fun g => g = g5) (Beg g5 l) rfl (by kernel_rfl) (by kernel_rfl) (by rintro g rfl; exact hbr.lt) hbr (fun w1 w2 h hs => h.sta hs (.inr rfl)) (fun w2 hK => keepsUpM (wq := wr.drew) (hur.trans (Up.refl _).drew) (Nat.le_of_eq hg7) hK)
      · intro QN hQN
        iterate 4 (apply Rg.RK.ok; (· intro vs w1 hS; go_simp; with_reducible rfl); (· rfl); simp only [Act.put, List.setIfInBounds_toArray, List.set_cons_zero, List.set_cons_succ, Nat.reduceAdd])
        apply Rg.RK.okU [11]
        · intro vs w1 hS hf
          have hb := hf.1
          have hb1 : Beg g5 l w1 := hb
          have hb2 := hb1.cell hpl
          rw [← HB0.out] at hb2
          have hb3 : w1.cell? ⟨g5, j, none⟩ = some (.int .u8 (b0.toNat : Int)) := hb2
          clear hb2
          go_simp
          with_reducible rfl
        · rfl
        simp only [Act.put, List.setIfInBounds_toArray, List.set_cons_zero, List.set_cons_succ, Nat.reduceAdd]
        iterate 4 (apply Rg.RK.ok; (· intro vs w1 hS; go_simp; with_reducible rfl); (· rfl); simp only [Act.put, List.setIfInBounds_toArray, List.set_cons_zero, List.set_cons_succ, Nat.reduceAdd])
        (apply Rg.RK.ok; (· intro vs w1 hS; go_simp; with_reducible rfl); (· rfl); simp only [Act.put, List.setIfInBounds_toArray, List.set_cons_zero, List.set_cons_succ, Nat.reduceAdd])
        apply Rg.RK.opD (fun vs W => Beg g5 (l.set j y) W) (fun vs g => g = g5) [11] [11] [] (fun _ _ _ => ⟨rfl, rfl⟩)
        · exact fun vs W1 W2 h hs => h.sta hs (.inr rfl)
        · rfl
        · intro vs w2 hK hS hf K hKK
          have hb1 : Beg g5 l w2 := hf.1
          have r0 := hb1.cell hpl
          have r1 := hb1.free hpl
          have r2 := hb1.set hpl y
          rw [show bv y = .int .u8 (y.toNat : Int) from rfl] at r2
          have r3 := setc_keeps w2 w2 g5 j (.int .u8 (y.toNat : Int)) (Rg.Keeps.refl _ _)
          go_simp
          refine hKK.out undef _ r2 (Keeps.weak r3 fun x hx => ⟨11, List.mem_singleton.2 rfl, hx⟩) (fun x hx => ⟨?_, .inr ⟨11, List.mem_singleton.2 rfl, hx⟩⟩)
          have hxx : x = g5 := hx
          rw [hxx]; exact r2.lt
        simp only [Act.put, List.setIfInBounds_toArray, List.set_cons_zero, List.set_cons_succ, Nat.reduceAdd]
        apply Rg.RK.fin [10]
        intro vs w8 hK hS hf
        obtain ⟨hbn, -⟩ := hf
        refine hQN.out _ _ ?_
        clear hQN
        have hbn2 : Beg g5 (l.set j y) w8 := hbn
        have e : flipsB F1 ([q0, q1, q2].take (1 + 1)) = l.set j y := by
          show flipB (flipsB F1 ([q0, q1, q2].take 1)) q1 = _
          rw [HLL.out]
          unfold flipB
          rw [← HP.out, ← HJ.out, ← HR.out, ← HB0.out, ← HB2.out, ← HY.out]
        have hLn : w8.heap[gL]? = some (.cells #[.int .i64 xi, .int .i64 xj, .int .i64 xk] 3 (0, 0)) := (hK.block gL (Array.getElem?_eq_some_iff.1 hLr).1 hneL).trans hLr
        rw [← e] at hbn2
        clear hbn hK hLr hbr
        go_wp2_with fail
        go_roundw
        case rel => exact ⟨1 + 1, by go_num, by omega, hS, hbn2, hLn⟩
        case measure => simp [intOf]
      · kernel_rfl
    · have hlt := flipsB_len ([q0, q1, q2].take 2) F1
      have hcx : wr.cell? ⟨gL, 2, none⟩ = some (.int .i64 xk) := blk_cell hLr 2
      generalize hl : flipsB F1 ([q0, q1, q2].take 2) = l at *
      have HLL := Lib.hid hl
      clear hl
      obtain ⟨p, hp⟩ : ∃ p, p = q2 := ⟨_, rfl⟩
      have hpl : p / 8 < l.length := by omega
      replace hq2 : (C2 : Int) % (Z : Int) = (p : Int) := by rw [hq2, hp]
      have a2 : IntKind.i64.wrap (p : Int) = (p : Int) := IntWalk.i64_in _ (by omega)
      obtain ⟨j, hj⟩ : ∃ j, j = p / 8 := ⟨_, rfl⟩
      obtain ⟨r, hr⟩ : ∃ r, r = p % 8 := ⟨_, rfl⟩
      have hr8 : r < 8 := by omega
      have a3 : (p : Int) / 8 = (j : Int) := by omega
      have a4 : (p : Int) % 8 = (r : Int) := by omega
      rw [← hj] at hpl
      have hjl : (j : Int) < (l.length : Int) := by omega
      have HJ := Lib.hid hj
      have HR := Lib.hid hr
      have HP := Lib.hid hp
      clear hj hr hp
      have hjS : (j : Int) < (F1.length : Int) := by omega
      have hjN : j < F1.length := by omega
      have hjM : (j : Int) < (m : Int) := by have := HML.out; omega
      have hjMN : j < m := by have := HML.out; omega
      have a5 : Int.tdiv (p : Int) 8 = (j : Int) := by rw [Int.tdiv_eq_ediv_of_nonneg (by omega)]; exact a3
      have a6 : Int.tmod (p : Int) 8 = (r : Int) := by rw [Int.tmod_eq_emod_of_nonneg (by omega)]; exact a4
      have a7 : IntKind.i64.wrap (j : Int) = (j : Int) := IntWalk.i64_in _ (by omega)
      have a8 : IntKind.i64.wrap (r : Int) = (r : Int) := IntWalk.i64_in _ (by omega)
      obtain ⟨b0, hb0⟩ : ∃ b0, b0 = l.getD j 0 := ⟨_, rfl⟩
      obtain ⟨b2, hb2⟩ : ∃ b2, b2 = UInt8.ofNat (2 ^ r) := ⟨_, rfl⟩
      obtain ⟨y, hy⟩ : ∃ y, y = b0 ^^^ b2 := ⟨_, rfl⟩
      have a9 : IntKind.u8.wrap ((2 : Int) ^ r) = (b2.toNat : Int) := by rw [hb2]; exact wrap_pow hr8
      have a10 : bits .xor .u8 (b0.toNat : Int) (b2.toNat : Int) = (y.toNat : Int) := by
        have h1 := b0.toNat_lt
        have h2 := b2.toNat_lt
        rw [hy, UInt8.toNat_xor, u8_xor_nat _ _ (by omega) (by omega)]
      have HB0 := Lib.hid hb0
      have HB2 := Lib.hid hb2
      have HY := Lib.hid hy
      clear hb0 hb2 hy
      have e0 : ((2 : Nat) : Int) = 2 := rfl
      go_wp2_with fail
      simp only [e0, hq2]
      apply Rg.region_own 11 (fun W => Up w5 W) (fun g => g = g5) (Beg g5 l) rfl (by kernel_rfl) (by kernel_rfl) (by rintro g rfl; exact hbr.lt) hbr (fun w1 w2 h hs => h.sta hs (.inr rfl)) (fun w2 hK => keepsUpM (wq := wr.drew) (hur.trans (Up.refl _).drew) (Nat.le_of_eq hg7) hK)
      · intro QN hQN
        iterate 4 (apply Rg.RK.ok; (· intro vs w1 hS; go_simp; with_reducible rfl); (· rfl); simp only [Act.put, List.setIfInBounds_toArray, List.set_cons_zero, List.set_cons_succ, Nat.reduceAdd])
        apply Rg.RK.okU [11]
        · intro vs w1 hS hf
          have hb := hf.1
          have hb1 : Beg g5 l w1 := hb
          have hb2 := hb1.cell hpl
          rw [← HB0.out] at hb2
          have hb3 : w1.cell? ⟨g5, j, none⟩ = some (.int .u8 (b0.toNat : Int)) := hb2
          clear hb2
          go_simp
          with_reducible rfl
        · rfl
        simp only [Act.put, List.setIfInBounds_toArray, List.set_cons_zero, List.set_cons_succ, Nat.reduceAdd]
        iterate 4 (apply Rg.RK.ok; (· intro vs w1 hS; go_simp; with_reducible rfl); (· rfl); simp only [Act.put, List.setIfInBounds_toArray, List.set_cons_zero, List.set_cons_succ, Nat.reduceAdd])
        (apply Rg.RK.ok; (· intro vs w1 hS; go_simp; with_reducible rfl); (· rfl); simp only [Act.put, List.setIfInBounds_toArray, List.set_cons_zero, List.set_cons_succ, Nat.reduceAdd])
        apply Rg.RK.opD (fun vs W => Beg g5 (l.set j y) W) (fun vs g => g = g5) [11] [11] [] (fun _ _ _ => ⟨rfl, rfl⟩)
        · exact fun vs W1 W2 h hs => h.sta hs (.inr rfl)
        · rfl
        · intro vs w2 hK hS hf K hKK
          have hb1 : Beg g5 l w2 := hf.1
          have r0 := hb1.cell hpl
          have r1 := hb1.free hpl
          have r2 := hb1.set hpl y
          rw [show bv y = .int .u8 (y.toNat : Int) from rfl] at r2
          have r3 := setc_keeps w2 w2 g5 j (.int .u8 (y.toNat : Int)) (Rg.Keeps.refl _ _)
          go_simp
          refine hKK.out undef _ r2 (Keeps.weak r3 fun x hx => ⟨11, List.mem_singleton.2 rfl, hx⟩) (fun x hx => ⟨?_, .inr ⟨11, List.mem_singleton.2 rfl, hx⟩⟩)
          have hxx : x = g5 := hx
          rw [hxx]; exact r2.lt
        simp only [Act.put, List.setIfInBounds_toArray, List.set_cons_zero, List.set_cons_succ, Nat.reduceAdd]
        apply Rg.RK.fin [10]
        intro vs w8 hK hS hf
        obtain ⟨hbn, -⟩ := hf
        refine hQN.out _ _ ?_
        clear hQN
        have hbn2 : Beg g5 (l.set j y) w8 := hbn
        have e : flipsB F1 ([q0, q1, q2].take (2 + 1)) = l.set j y := by
          show flipB (flipsB F1 ([q0, q1, q2].take 2)) q2 = _
          rw [HLL.out]
          unfold flipB
          rw [← HP.out, ← HJ.out, ← HR.out, ← HB0.out, ← HB2.out, ← HY.out]
        have hLn : w8.heap[gL]? = some (.cells #[.int .i64 xi, .int .i64 xj, .int .i64 xk] 3 (0, 0)) := (hK.block gL (Array.getElem?_eq_some_iff.1 hLr).1 hneL).trans hLr
        rw [← e] at hbn2
        clear hbn hK hLr hbr
        go_wp2_with fail
        go_roundw
        case rel => exact ⟨2 + 1, by go_num, by omega, hS, hbn2, hLn⟩
        case measure => simp [intOf]
      · kernel_rfl
    · rw [show ([q0, q1, q2].take 3) = [q0, q1, q2] from rfl] at hbr
      have hps : ∀ p ∈ [q0, q1, q2], p < 8 * F1.length := by
        intro p hp
        simp only [List.mem_cons, List.not_mem_nil, or_false] at hp
        rcases hp with rfl | rfl | rfl <;> omega
      have hl3 := HLAW.out [q0, q1, q2] (Nat.le_refl 3) hps
      have hfl := flipsB_len [q0, q1, q2] F1
      generalize flipsB F1 [q0, q1, q2] = fl at *
      have hrd := hbr.rd
      rw [hfl, ← HML.out] at hrd
      rw [← HML.out] at hl3
      have hq7 := hq5.up hur
      have hup7 := hup5.trans hur
      clear hbr hps hLr hC0 hC1 hC2 hq0 hq1 hq2 a10 hg7 HLAW hfl hq5 hup5
      go_wp2_with fail
      refine (btake_any (some ⟨g5, 0, none⟩) m c6 fl 0 wr hrd (by omega) hcap).mono ?_
      rintro e w8 ⟨Y, yn, yc, rfl, hY, hyc, hu8⟩
      have hrd8 := hrd.up hu8
      have hcv : (convert 22 9 (.slice (some ⟨g5, 0, none⟩) m c6)).run Try.prog w8 = .ok (.string (tx fl)) _ := run_str c6 hrd8
      have hup8 := hup7.trans hu8
      have hq8 := hq7.up hu8
      rcases hl3 with ⟨he, hs⟩ | ⟨he, hs⟩
      · rw [hs] at hY ⊢
        (try dsimp only at hY ⊢)
        have s2 := tx_beq he
        have hyl := hY.ilen
        have HYL := Lib.hid hyl
        clear hs he hyl hrd hq7 hup7 hu8 hrd8
        go_wp2_with fail
        refine (requal_any Y yn yc q R rn rc q _ hY hq8 (by have := HYL.out; have := HQL.out; omega) (by omega)).mono ?_
        rintro e w10 ⟨rfl, hu10⟩
        rw [show decide (q = q) = true by simp]
        go_wp2_with fail
        refine (awake11_any w10).mono ?_
        rintro e w11 ⟨rfl, hu11⟩
        go_wp2_with fail
        go_ret
        exact ⟨rfl, (hup8.trans hu10).trans hu11⟩
      · rw [hs] at hY ⊢
        (try dsimp only at hY ⊢)
        have s2 := tx_bne he
        have hyl := hY.ilen
        have hy0 : yn = 0 := hyl
        subst hy0
        clear hs he hyl hrd hq7 hup7 hu8 hrd8
        go_wp2_with fail
        refine (awake11_any w8).mono ?_
        rintro e w11 ⟨rfl, hu11⟩
        go_wp2_with fail
        go_ret
        exact ⟨rfl, hup8.trans hu11⟩
end Go.Proofs.Ytijekbeofpaojaa.blockBits

/-
  'clepsydra/clepsydralaw11.BlockBits': for every input the law returns true; each argument reads behind the call as it read before. No condition.
-/
namespace Go.Proofs.Ytijekbeofpaojaa.blockBits
open Go.ChangeShapes Go.WideShapes Go.ChangeAt Go.RowKit
open Go.ChangeMaps (open_string shut_string)
set_option linter.unusedVariables false

set_option maxRecDepth 100000 in
theorem lifted (os : Os) (started : os.Started) (H : Type) (enc : TypeId × Value → H) :
    ReturnsInHanded {} Try.checked os 4 .any (Rows.blockBitsSpec.pre6 enc Try.prog Try.f4 Rows.blockBitsRow.domain false) (Rows.blockBitsSpec.post enc Try.prog Try.f4 false true false false) := by
  refine returnsInHanded_of_change_sized (C := Try.checked) prog_own started (by kernel_rfl) Try.func4
    (ChangeSpec.witness6 (enc := enc) (C := Try.checked) false ⟨#[], #[.slice none 0 0, .int .i64 0, .int .i64 0, .int .i64 0], []⟩ 8 (by kernel_rfl) (by kernel_rfl) (by kernel_rfl) (by kernel_rfl)) ?_
  intro W base args ds gs before hval0 hW hcnd hsz0 _
  have hval : ∀ (j : Nat) t v, Try.f4.params[j]? = some t → args[j]? = some v → Value.okWide Try.prog W .any base t v := hval0
  have hW' := hW
  obtain ⟨p, q, hA0, hV, rfl, hfz, hnd⟩ := hW
  have hA : DataW.TrodAll enc Try.prog W 0 (fun _ => true) true Try.f4.params.toList args.toList ds p := hA0
  have hsz : (DataW.weightsEach Try.prog (Try.f4.params.toList ++ Rows.blockBitsSpec.plain.varTypes Try.prog) (ds ++ gs)).all (· ≤ reachBytes) = true := hsz0
  rw [Try.params4] at hA hval hsz
  obtain ⟨v0, vs0, d0, ds0, p0, q0, hargs, rfl, rfl, h0, r0⟩ := trodAll_cons hA
  obtain ⟨v1, vs1, d1, ds1, p1, q1, rfl, rfl, rfl, h1, r1⟩ := trodAll_cons r0
  obtain ⟨v2, vs2, d2, ds2, p2, q2, rfl, rfl, rfl, h2, r2⟩ := trodAll_cons r1
  obtain ⟨v3, vs3, d3, ds3, p3, q3, rfl, rfl, rfl, h3, r3⟩ := trodAll_cons r2
  obtain ⟨rfl, rfl, rfl⟩ := trodAll_nil r3
  obtain rfl : args = #[v0, v1, v2, v3] := by cases args; simp_all
  obtain ⟨rfl, rfl⟩ := trodVars_none hV
  obtain ⟨a0, len0, cap0, rfl⟩ := okWide_slice Try.underlying23 (hval 0 23 v0 rfl rfl)
  have k0 := h0
  have lt0 : ∀ x ∈ p0, x.block < W.heap.size := by obtain ⟨m, hm⟩ := k0; exact DataW.trod_lt m _ _ _ hm
  obtain ⟨l0, w0⟩ := is_i h0
  obtain ⟨a1, rfl, rfl, rfl, w1⟩ := open_int Try.underlying3 (hval 1 3 v1 rfl rfl) h1
  have b1 := bd_i64 w1
  obtain ⟨a2, rfl, rfl, rfl, w2⟩ := open_int Try.underlying3 (hval 2 3 v2 rfl rfl) h2
  have b2 := bd_i64 w2
  obtain ⟨a3, rfl, rfl, rfl, w3⟩ := open_int Try.underlying3 (hval 3 3 v3 rfl rfl) h3
  have b3 := bd_i64 w3
  clear hA0 hval0
  refine (law_any a0 len0 cap0 l0 a1 a2 a3 W (And.intro w0 (i_reach k0 hsz (j := 0) rfl rfl)) b1 b2 b3).mono fun e W' ⟨he, bel⟩ => ?_
  subst he
  exact ⟨_, rfl, _, _, _, [], _, [], hW', trodAll_mk1 (shut_bool Try.underlying4 _), (trodAll_cons_mk (Below.trod laidOut (by kernel_rfl) (of_decide_eq_true (by kernel_rfl)) k0 bel lt0) (trodAll_cons_mk (shut_int Try.underlying3 w1) (trodAll_cons_mk (shut_int Try.underlying3 w2) (trodAll_cons_mk (shut_int Try.underlying3 w3) trodAll_mk0)))), rfl, bel.frame _, fun h => by cases h⟩

theorem proved : Rows.BlockBitsSaid :=
  OpenClaim.holds_of_wide 4 Try.f4 rfl rfl rfl rfl rfl rfl rfl ⟨rfl, rfl, rfl, rfl, rfl⟩ rfl rfl rfl rfl rfl (by kernel_rfl) Try.func4 (by kernel_rfl)
    (of_decide_eq_true (by kernel_rfl)) (by unfold Func.isWrapper; first | (rw [if_pos (by decide +kernel)]; kernel_rfl) | (rw [if_neg (by decide +kernel)]; exact ⟨rfl, rfl⟩))
    (fun os started H enc _ => lifted os started H enc)
#print axioms proved
end Go.Proofs.Ytijekbeofpaojaa.blockBits
