/-
  'clepsydra/clepsydralaw14.LogTurned': for every input the law returns true; each argument reads behind the call as it read before. No condition.
-/
import Derived.IntWalk
import Derived.Test.YtnjmekjaingniaaZ5
/-
  The law LogTurned: the walk.
-/
namespace Go.Proofs.Ytnjmekjaingniaa.logTurned
open Go.RowKit
set_option linter.unusedVariables false
set_option linter.unusedSimpArgs false

/-- blocks that were written are newer than w -/
theorem keeps_fresh {w wq w2 : World} {gx : Nat} (hu : Up w wq) (hg : w.heap.size ≤ gx) (hK : Rg.Keeps (fun g => g = gx) wq w2) : Up w w2 :=
  ⟨hK.os.trans hu.os, hK.tape.trans hu.tape, hK.output.trans hu.output, Nat.le_trans hu.size hK.size, fun k hk => (hK.block k (Nat.lt_of_lt_of_le hk hu.size) (by show ¬ k = gx; omega)).trans (hu.block k hk)⟩
theorem wrap_pow {r : Nat} (hr : r < 8) : IntKind.u8.wrap ((2 : Int) ^ r) = ((UInt8.ofNat (2 ^ r)).toNat : Int) := by
  rw [(pow_bits r hr).2, IntKind.wrap_u8]
  have h : r = 0 ∨ r = 1 ∨ r = 2 ∨ r = 3 ∨ r = 4 ∨ r = 5 ∨ r = 6 ∨ r = 7 := by omega
  rcases h with rfl | rfl | rfl | rfl | rfl | rfl | rfl | rfl <;> decide
set_option maxRecDepth 100000 in
set_option maxHeartbeats 8000000 in
theorem law_any (A : Option Addr) (n c : Nat) (rs : List Rw) (which xi xj xk : Int) (w : World) (hr : IsRI w A n c rs) (b1 : -9223372036854775808 ≤ which ∧ which ≤ 9223372036854775807) (b2 : -9223372036854775808 ≤ xi ∧ xi ≤ 9223372036854775807)
    (b3 : -9223372036854775808 ≤ xj ∧ xj ≤ 9223372036854775807) (b4 : -9223372036854775808 ≤ xk ∧ xk ≤ 9223372036854775807) :
    Calls Try.prog 7 #[.slice A n c, .int .i64 which, .int .i64 xi, .int .i64 xj, .int .i64 xk] w fun e w' => e = .returned (.bool true) ∧ Up w w' := by
  go_enter Try.func7, Try.ntmps7
  go_wp2_with fail
  refine (few14_any A n c rs w hr.1 (by have := hr.2.2; omega) hr.bd).mono ?_
  rintro e w1 ⟨b, rfl, hfew, hu1⟩
  cases b with
  | false =>
    go_wp2_with fail
    refine (awake14_any w1).mono ?_
    rintro e w2 ⟨rfl, hu2⟩
    go_wp2_with fail
    go_ret
    exact ⟨rfl, hu1.trans hu2⟩
  | true =>
    obtain ⟨hn15, hr150⟩ := hfew rfl
    have hok1 := (IsRI.ok hr).up hu1
    have hrd1 := hr.1.up hu1
    have hl := hrd1.rlen
    obtain ⟨f1, f2, f3, f40, f5⟩ := text_facts hok1 (by omega) hr150
    have f4 := Lib.hid f40
    clear hl f40 hfew
    go_wp2_with fail
    refine (text14_any A n c rs w1 hrd1 hok1 hn15 hr150).mono ?_
    rintro e w2 ⟨G, m, gc, E, ec, rfl, hG, hE, hu2⟩
    have hup2 := hu1.trans hu2
    have f2 := f2.up hu2
    have hmg := hG.len
    clear hr150 hok1 hrd1 hr hu1
    generalize goodR rs = gs at *
    obtain ⟨g, hg⟩ : ∃ g, g = rwl gs := ⟨_, rfl⟩
    have hgl : g.length = m := by rw [hg, rwl_len, hmg]
    rw [← hg] at f4 f5 hE ⊢
    obtain ⟨bE, rfl, hbE, hcE⟩ := ends_cell hE (by rw [hgl])
    obtain ⟨S, hS⟩ : ∃ S, S = logB g := ⟨_, rfl⟩
    rw [← hS] at f5 ⊢
    obtain ⟨N, hN⟩ : ∃ N, N = S.length := ⟨_, rfl⟩
    have hz : (tx S).size = N := by rw [tx_size, hN]
    have hN2 : N ≤ 900180 := by omega
    have hm15 : m ≤ 15 := by omega
    have HG := Lib.hid hg
    have HGL := Lib.hid hgl
    have HS := Lib.hid hS
    have HN := Lib.hid hN
    have HMG := Lib.hid hmg
    have HC := Lib.hid hcE
    clear hg hgl hS hN hmg hcE f5 hE
    by_cases hm0 : m = 0
    · have i0 : ((m : Int) == 0) = true := by rw [beq_iff_eq]; omega
      clear hm0
      go_wp2_with fail
      refine (awake14_any w2).mono ?_
      rintro e w3 ⟨rfl, hu3⟩
      go_wp2_with fail
      go_ret
      exact ⟨rfl, hup2.trans hu3⟩
    have i0 : ((m : Int) == 0) = false := by rw [beq_eq_false_iff_ne]; omega
    obtain ⟨C, hC, _⟩ := i64_and_le which 255 (by omega)
    replace hC : bits .and .i64 which 255 = (C : Int) := hC
    have hM1 : ¬ ((m : Int) = 0) := by omega
    obtain ⟨mm, hm2, hmM⟩ : ∃ mm : Nat, (C : Int).tmod (m : Int) = (mm : Int) ∧ mm < m := ⟨C % m, (by rw [Int.tmod_eq_emod_of_nonneg (by omega), Int.natCast_emod]), Nat.mod_lt C (by omega)⟩
    have hEm := HC.out mm (by omega)
    have hEn := HC.out (mm + 1) (by omega)
    have hgi : mm < g.length := by rw [HGL.out]; exact hmM
    have hsnoc := endL_snoc g hgi
    have hbl := batB_len (f4.out g[mm] (List.getElem_mem hgi))
    have hle1 : endL g (mm + 1) ≤ N := by rw [HN.out, HS.out]; exact endL_le g (mm + 1)
    obtain ⟨E0, hE0⟩ : ∃ E0, E0 = endL g mm := ⟨_, rfl⟩
    obtain ⟨E1, hE1⟩ : ∃ E1, E1 = endL g (mm + 1) := ⟨_, rfl⟩
    rw [← hE0] at hEm hsnoc
    rw [← hE1] at hEn hsnoc hle1
    have HE0 := Lib.hid hE0
    have HE1 := Lib.hid hE1
    clear hE0 hE1 hm0
    have hEE : E0 + 12 ≤ E1 := by omega
    clear hsnoc hbl hgi
    obtain ⟨P0, hP0⟩ : ∃ P0, P0 = 8 * E0 := ⟨_, rfl⟩
    obtain ⟨D0, hD0⟩ : ∃ D0, D0 = E1 - E0 := ⟨_, rfl⟩
    obtain ⟨Z, hZ⟩ : ∃ Z, Z = 8 * D0 := ⟨_, rfl⟩
    have a1 : (mm : Int) < (m : Int) + 1 := by omega
    have a2 : mm < m + 1 := by omega
    have a3 : (mm : Int) + 1 < (m : Int) + 1 := by omega
    have a4 : mm + 1 < m + 1 := by omega
    have a5 : ((mm : Int) + 1).toNat = mm + 1 := by omega
    have a6 : (0 : Int) ≤ (mm : Int) + 1 := by omega
    have a7 : IntKind.i64.wrap ((mm : Int) + 1) = (mm : Int) + 1 := IntWalk.i64_in _ (by omega)
    have a8 : IntKind.i64.wrap (8 * (E0 : Int)) = (P0 : Int) := by rw [IntWalk.i64_in _ (by omega)]; omega
    have a9 : IntKind.i64.wrap ((E1 : Int) - (E0 : Int)) = (D0 : Int) := by rw [IntWalk.i64_in _ (by omega)]; omega
    have a10 : IntKind.i64.wrap (8 * (D0 : Int)) = (Z : Int) := by rw [IntWalk.i64_in _ (by omega)]; omega
    have hZ0 : 96 ≤ Z := by omega
    have hPZ : P0 + Z ≤ 8 * N := by omega
    have HZ := Lib.hid hZ
    have HP0 := Lib.hid hP0
    have HD0 := Lib.hid hD0
    clear hZ hP0 hD0
    go_wp2_with fail
    (try simp only [hm2])
    apply Rg.region_up (fun W => Up w2 W ∧ W.cell? ⟨bE, mm, none⟩ = some (.int .i64 (E0 : Int)) ∧ W.cell? ⟨bE, mm + 1, none⟩ = some (.int .i64 (E1 : Int))) (by kernel_rfl) (by kernel_rfl) (fun W h => ⟨h, (h.cell (p := ⟨bE, mm, none⟩) hbE).trans hEm, (h.cell (p := ⟨bE, mm + 1, none⟩) hbE).trans hEn⟩)
    · intro QN hQN
      iterate 18 (apply Rg.RK.ok; (· intro vs w1 hS; go_simp; with_reducible rfl); (· rfl); simp only [Act.put, List.setIfInBounds_toArray, List.set_cons_zero, List.set_cons_succ, Nat.reduceAdd])
      apply Rg.RK.fin []
      intro vs w3 hK hS9 _
      refine hQN.out _ _ ?_
      clear hQN hK
      obtain ⟨hu3, -, -⟩ := hS9
      clear hEm hEn a1 a2 a3 a4 a5 a6 a7 a8 a9 a10 hC hm2
      obtain ⟨c5, w5, hconv, hcap, hbeg, hu5⟩ := conv_beg w3 S
      rw [← HN.out] at hconv hcap
      have hg5 : w2.heap.size ≤ w3.heap.size := hu3.size
      generalize hg7 : w3.heap.size = g5 at hconv hbeg hg5
      go_wp2_with fail
      have hu6 : Up w3 (w5.alloc (.cells #[.int .i64 xi, .int .i64 xj, .int .i64 xk] 3)) := hu5.trans ((Up.refl _).alloc _)
      have hbeg7 : Beg g5 S (w5.alloc (.cells #[.int .i64 xi, .int .i64 xj, .int .i64 xk] 3)) := hbeg.up ((Up.refl _).alloc _)
      have hgL : (w5.alloc (.cells #[.int .i64 xi, .int .i64 xj, .int .i64 xk] 3)).heap[w5.heap.size]? = some (.cells #[.int .i64 xi, .int .i64 xj, .int .i64 xk] 3 (0, 0)) := Array.getElem?_push_size
      have hne : g5 < w5.heap.size := hbeg.lt
      have hneL : ¬ w5.heap.size = g5 := by omega
      generalize w5.alloc (.cells #[.int .i64 xi, .int .i64 xj, .int .i64 xk] 3) = w6 at *
      generalize w5.heap.size = gL at *
      obtain ⟨C0, hC0, _⟩ := i64_and_le xi 16777215 (by omega)
      obtain ⟨C1, hC1, _⟩ := i64_and_le xj 16777215 (by omega)
      obtain ⟨C2, hC2, _⟩ := i64_and_le xk 16777215 (by omega)
      replace hC0 : bits .and .i64 xi 16777215 = (C0 : Int) := hC0
      replace hC1 : bits .and .i64 xj 16777215 = (C1 : Int) := hC1
      replace hC2 : bits .and .i64 xk 16777215 = (C2 : Int) := hC2
      have hZ1 : ¬ ((Z : Int) = 0) := by omega
      obtain ⟨q0, hq0, hq0Z⟩ : ∃ q : Nat, (C0 : Int) % (Z : Int) = (q : Int) ∧ q < Z := ⟨C0 % Z, by rw [Int.natCast_emod], Nat.mod_lt C0 (by omega)⟩
      obtain ⟨q1, hq1, hq1Z⟩ : ∃ q : Nat, (C1 : Int) % (Z : Int) = (q : Int) ∧ q < Z := ⟨C1 % Z, by rw [Int.natCast_emod], Nat.mod_lt C1 (by omega)⟩
      obtain ⟨q2, hq2, hq2Z⟩ : ∃ q : Nat, (C2 : Int) % (Z : Int) = (q : Int) ∧ q < Z := ⟨C2 % Z, by rw [Int.natCast_emod], Nat.mod_lt C2 (by omega)⟩
      have hSl : S.length ≤ 900180 ∧ P0 + Z ≤ 8 * S.length := by have := HN.out; omega
      obtain ⟨hSl1, hSl2⟩ := hSl
      clear hbeg hu5 hconv hPZ
      go_loopw [66] (fun i wr => ∃ t : Nat, i = .int .i64 (t : Int) ∧ t ≤ 3 ∧ Up w3 wr ∧ Beg g5 (flipsB S ([P0 + q0, P0 + q1, P0 + q2].take t)) wr ∧ wr.heap[gL]? = some (.cells #[.int .i64 xi, .int .i64 xj, .int .i64 xk] 3 (0, 0))) (fun i _ => 3 - (intOf i).toNat)
      case atStart => exact ⟨0, rfl, by omega, hu6, hbeg7, hgL⟩
      case round =>
        obtain ⟨t, rfl, ht, hur, hbr, hLr⟩ := hrel
        have hcases : t = 0 ∨ t = 1 ∨ t = 2 ∨ t = 3 := by omega
        rcases hcases with rfl | rfl | rfl | rfl
        · have hlt := flipsB_len ([P0 + q0, P0 + q1, P0 + q2].take 0) S
          have hcx : wr.cell? ⟨gL, 0, none⟩ = some (.int .i64 xi) := blk_cell hLr 0
          generalize hl : flipsB S ([P0 + q0, P0 + q1, P0 + q2].take 0) = l at *
          have HLL := Lib.hid hl
          clear hl
          obtain ⟨p, hp⟩ : ∃ p, p = P0 + q0 := ⟨_, rfl⟩
          have hpl : p / 8 < l.length := by omega
          have a1 : (P0 : Int) + (q0 : Int) = (p : Int) := by omega
          have a2 : IntKind.i64.wrap (p : Int) = (p : Int) := IntWalk.i64_in _ (by omega)
          obtain ⟨j, hj⟩ : ∃ j, j = p / 8 := ⟨_, rfl⟩
          obtain ⟨r, hr⟩ : ∃ r, r = p % 8 := ⟨_, rfl⟩
          have hr8 : r < 8 := by omega
          have a3 : (p : Int) / 8 = (j : Int) := by omega
          have a4 : (p : Int) % 8 = (r : Int) := by omega
          rw [← hj] at hpl
          have hjl : (j : Int) < (l.length : Int) := by omega
          have HJ := Lib.hid hj
          have HR := Lib.hid hr
          have HP := Lib.hid hp
          clear hj hr hp
          have hjS : (j : Int) < (N : Int) := by have := HN.out; omega
          have hjN : j < N := by have := HN.out; omega
          have a5 : Int.tdiv (p : Int) 8 = (j : Int) := by rw [Int.tdiv_eq_ediv_of_nonneg (by omega)]; exact a3
          have a6 : Int.tmod (p : Int) 8 = (r : Int) := by rw [Int.tmod_eq_emod_of_nonneg (by omega)]; exact a4
          have a7 : IntKind.i64.wrap (j : Int) = (j : Int) := IntWalk.i64_in _ (by omega)
          have a8 : IntKind.i64.wrap (r : Int) = (r : Int) := IntWalk.i64_in _ (by omega)
          obtain ⟨b0, hb0⟩ : ∃ b0, b0 = l.getD j 0 := ⟨_, rfl⟩
          obtain ⟨b2, hb2⟩ : ∃ b2, b2 = UInt8.ofNat (2 ^ r) := ⟨_, rfl⟩
          obtain ⟨y, hy⟩ : ∃ y, y = b0 ^^^ b2 := ⟨_, rfl⟩
          have a9 : IntKind.u8.wrap ((2 : Int) ^ r) = (b2.toNat : Int) := by rw [hb2]; exact wrap_pow hr8
          have a10 : bits .xor .u8 (b0.toNat : Int) (b2.toNat : Int) = (y.toNat : Int) := by
            have h1 := b0.toNat_lt
            have h2 := b2.toNat_lt
            rw [hy, UInt8.toNat_xor, u8_xor_nat _ _ (by omega) (by omega)]
          have HB0 := Lib.hid hb0
          have HB2 := Lib.hid hb2
          have HY := Lib.hid hy
          clear hb0 hb2 hy
          have e0 : ((0 : Nat) : Int) = 0 := rfl
          go_wp2_with fail
          simp only [e0, hq0]
          apply Rg.region_own 11 (fun W => Up w3 W) (fun g => g = g5) (Beg g5 l) rfl (by kernel_rfl) (by kernel_rfl) (by rintro g rfl; exact hbr.lt) hbr (fun w1 w2 h hs => h.sta hs (.inr rfl)) (fun w2 hK => keeps_fresh (wq := wr.drew) (hur.trans (Up.refl _).drew) (Nat.le_of_eq hg7) hK)
          · intro QN hQN
            iterate 4 (apply Rg.RK.ok; (· intro vs w1 hS; go_simp; with_reducible rfl); (· rfl); simp only [Act.put, List.setIfInBounds_toArray, List.set_cons_zero, List.set_cons_succ, Nat.reduceAdd])
            apply Rg.RK.okU [11]
            · intro vs w1 hS hf
              have hb := hf.1
              have hb1 : Beg g5 l w1 := hb
              have hb2 := hb1.cell hpl
              rw [← HB0.out] at hb2
              have hb3 : w1.cell? ⟨g5, j, none⟩ = some (.int .u8 (b0.toNat : Int)) := hb2
              clear hb2
              go_simp
              with_reducible rfl
            · rfl
            simp only [Act.put, List.setIfInBounds_toArray, List.set_cons_zero, List.set_cons_succ, Nat.reduceAdd]
            iterate 4 (apply Rg.RK.ok; (· intro vs w1 hS; go_simp; with_reducible rfl); (· rfl); simp only [Act.put, List.setIfInBounds_toArray, List.set_cons_zero, List.set_cons_succ, Nat.reduceAdd])
            (apply Rg.RK.ok; (· intro vs w1 hS; go_simp; with_reducible rfl); (· rfl); simp only [Act.put, List.setIfInBounds_toArray, List.set_cons_zero, List.set_cons_succ, Nat.reduceAdd])
            apply Rg.RK.opD (fun vs W => Beg g5 (l.set j y) W) (fun vs g => g = g5) [11] [11] [] (fun _ _ _ => ⟨rfl, rfl⟩)
            · exact fun vs W1 W2 h hs => h.sta hs (.inr rfl)
            · rfl
            · intro vs w2 hK hS hf K hKK
              have hb1 : Beg g5 l w2 := hf.1
              have r0 := hb1.cell hpl
              have r1 := hb1.free hpl
              have r2 := hb1.set hpl y
              rw [show bv y = .int .u8 (y.toNat : Int) from rfl] at r2
              have r3 := setc_keeps w2 w2 g5 j (.int .u8 (y.toNat : Int)) (Rg.Keeps.refl _ _)
              go_simp
              refine hKK.out undef _ r2 (Keeps.weak r3 fun x hx => ⟨11, List.mem_singleton.2 rfl, hx⟩) (fun x hx => ⟨?_, .inr ⟨11, List.mem_singleton.2 rfl, hx⟩⟩)
              have hxx : x = g5 := hx
              rw [hxx]; exact r2.lt
            simp only [Act.put, List.setIfInBounds_toArray, List.set_cons_zero, List.set_cons_succ, Nat.reduceAdd]
            apply Rg.RK.fin [10]
            intro vs w8 hK hS hf
            obtain ⟨hbn, -⟩ := hf
            refine hQN.out _ _ ?_
            clear hQN
            have hbn2 : Beg g5 (l.set j y) w8 := hbn
            have e : flipsB S ([P0 + q0, P0 + q1, P0 + q2].take (0 + 1)) = l.set j y := by
              show flipB (flipsB S ([P0 + q0, P0 + q1, P0 + q2].take 0)) (P0 + q0) = _
              rw [HLL.out]
              unfold flipB
              rw [← HP.out, ← HJ.out, ← HR.out, ← HB0.out, ← HB2.out, ← HY.out]
            have hLn : w8.heap[gL]? = some (.cells #[.int .i64 xi, .int .i64 xj, .int .i64 xk] 3 (0, 0)) := (hK.block gL (Array.getElem?_eq_some_iff.1 hLr).1 hneL).trans hLr
            rw [← e] at hbn2
            clear hbn hK hLr hbr
            go_wp2_with fail
            go_roundw
            case rel => exact ⟨0 + 1, by go_num, by omega, hS, hbn2, hLn⟩
            case measure => simp [intOf]
          · kernel_rfl
        · have hlt := flipsB_len ([P0 + q0, P0 + q1, P0 + q2].take 1) S
          have hcx : wr.cell? ⟨gL, 1, none⟩ = some (.int .i64 xj) := blk_cell hLr 1
          generalize hl : flipsB S ([P0 + q0, P0 + q1, P0 + q2].take 1) = l at *
          have HLL := Lib.hid hl
          clear hl
          obtain ⟨p, hp⟩ : ∃ p, p = P0 + q1 := ⟨_, rfl⟩
          have hpl : p / 8 < l.length := by omega
          have a1 : (P0 : Int) + (q1 : Int) = (p : Int) := by omega
          have a2 : IntKind.i64.wrap (p : Int) = (p : Int) := IntWalk.i64_in _ (by omega)
          obtain ⟨j, hj⟩ : ∃ j, j = p / 8 := ⟨_, rfl⟩
          obtain ⟨r, hr⟩ : ∃ r, r = p % 8 := ⟨_, rfl⟩
          have hr8 : r < 8 := by omega
          have a3 : (p : Int) / 8 = (j : Int) := by omega
          have a4 : (p : Int) % 8 = (r : Int) := by omega
          rw [← hj] at hpl
          have hjl : (j : Int) < (l.length : Int) := by omega
          have HJ := Lib.hid hj
          have HR := Lib.hid hr
          have HP := Lib.hid hp
          clear hj hr hp
          have hjS : (j : Int) < (N : Int) := by have := HN.out; omega
          have hjN : j < N := by have := HN.out; omega
          have a5 : Int.tdiv (p : Int) 8 = (j : Int) := by rw [Int.tdiv_eq_ediv_of_nonneg (by omega)]; exact a3
          have a6 : Int.tmod (p : Int) 8 = (r : Int) := by rw [Int.tmod_eq_emod_of_nonneg (by omega)]; exact a4
          have a7 : IntKind.i64.wrap (j : Int) = (j : Int) := IntWalk.i64_in _ (by omega)
          have a8 : IntKind.i64.wrap (r : Int) = (r : Int) := IntWalk.i64_in _ (by omega)
          obtain ⟨b0, hb0⟩ : ∃ b0, b0 = l.getD j 0 := ⟨_, rfl⟩
          obtain ⟨b2, hb2⟩ : ∃ b2, b2 = UInt8.ofNat (2 ^ r) := ⟨_, rfl⟩
          obtain ⟨y, hy⟩ : ∃ y, y = b0 ^^^ b2 := ⟨_, rfl⟩
          have a9 : IntKind.u8.wrap ((2 : Int) ^ r) = (b2.toNat : Int) := by rw [hb2]; exact wrap_pow hr8
          have a10 : bits .xor .u8 (b0.toNat : Int) (b2.toNat : Int) = (y.toNat : Int) := by
            have h1 := b0.toNat_lt
            have h2 := b2.toNat_lt
            rw [hy, UInt8.toNat_xor, u8_xor_nat _ _ (by omega) (by omega)]
          have HB0 := Lib.hid hb0
          have HB2 := Lib.hid hb2
          have HY := Lib.hid hy
          clear hb0 hb2 hy
          have e0 : ((1 : Nat) : Int) = 1 := rfl
          go_wp2_with fail
          simp only [e0, hq1]
          apply Rg.region_own 11 (fun W => Up w3 W) (fun g => g = g5) (Beg g5 l) rfl (by kernel_rfl) (by kernel_rfl) (by rintro g rfl; exact hbr.lt) hbr (fun w1 w2 h hs => h.sta hs (.inr rfl)) (fun w2 hK => keeps_fresh (wq := wr.drew) (hur.trans (Up.refl _).drew) (Nat.le_of_eq hg7) hK)
          · intro QN hQN
            iterate 4 (apply Rg.RK.ok; (· intro vs w1 hS; go_simp; with_reducible rfl); (· rfl); simp only [Act.put, List.setIfInBounds_toArray, List.set_cons_zero, List.set_cons_succ, Nat.reduceAdd])
            apply Rg.RK.okU [11]
            · intro vs w1 hS hf
              have hb := hf.1
              have hb1 : Beg g5 l w1 := hb
              have hb2 := hb1.cell hpl
              rw [← HB0.out] at hb2
              have hb3 : w1.cell? ⟨g5, j, none⟩ = some (.int .u8 (b0.toNat : Int)) := hb2
              clear hb2
              go_simp
              with_reducible rfl
            · rfl
            simp only [Act.put, List.setIfInBounds_toArray, List.set_cons_zero, List.set_cons_succ, Nat.reduceAdd]
            iterate 4 (apply Rg.RK.ok; (· intro vs w1 hS; go_simp; with_reducible rfl); (· rfl); simp only [Act.put, List.setIfInBounds_toArray, List.set_cons_zero, List.set_cons_succ, Nat.reduceAdd])
            (apply Rg.RK.ok; (· intro vs w1 hS; go_simp; with_reducible rfl); (· rfl); simp only [Act.put, List.setIfInBounds_toArray, List.set_cons_zero, List.set_cons_succ, Nat.reduceAdd])
            apply Rg.RK.opD (fun vs W => Beg g5 (l.set j y) W) (fun vs g => g = g5) [11] [11] [] (fun _ _ _ => ⟨rfl, rfl⟩)
            · exact fun vs W1 W2 h hs => h.sta hs (.inr rfl)
            · rfl
            · intro vs w2 hK hS hf K hKK
              have hb1 : Beg g5 l w2 := hf.1
              have r0 := hb1.cell hpl
              have r1 := hb1.free hpl
              have r2 := hb1.set hpl y
              rw [show bv y = .int .u8 (y.toNat : Int) from rfl] at r2
              have r3 := setc_keeps w2 w2 g5 j (.int .u8 (y.toNat : Int)) (Rg.Keeps.refl _ _)
              go_simp
              refine hKK.out undef _ r2 (Keeps.weak r3 fun x hx => ⟨11, List.mem_singleton.2 rfl, hx⟩) (fun x hx => ⟨?_, .inr ⟨11, List.mem_singleton.2 rfl, hx⟩⟩)
              have hxx : x = g5 := hx
              rw [hxx]; exact r2.lt
            simp only [Act.put, List.setIfInBounds_toArray, List.set_cons_zero, List.set_cons_succ, Nat.reduceAdd]
            apply Rg.RK.fin [10]
            intro vs w8 hK hS hf
            obtain ⟨hbn, -⟩ := hf
            refine hQN.out _ _ ?_
            clear hQN
            have hbn2 : Beg g5 (l.set j y) w8 := hbn
            have e : flipsB S ([P0 + q0, P0 + q1, P0 + q2].take (1 + 1)) = l.set j y := by
              show flipB (flipsB S ([P0 + q0, P0 + q1, P0 + q2].take 1)) (P0 + q1) = _
              rw [HLL.out]
              unfold flipB
              rw [← HP.out, ← HJ.out, ← HR.out, ← HB0.out, ← HB2.out, ← HY.out]
            have hLn : w8.heap[gL]? = some (.cells #[.int .i64 xi, .int .i64 xj, .int .i64 xk] 3 (0, 0)) := (hK.block gL (Array.getElem?_eq_some_iff.1 hLr).1 hneL).trans hLr
            rw [← e] at hbn2
            clear hbn hK hLr hbr
            go_wp2_with fail
            go_roundw
            case rel => exact ⟨1 + 1, by go_num, by omega, hS, hbn2, hLn⟩
            case measure => simp [intOf]
          · kernel_rfl
        · have hlt := flipsB_len ([P0 + q0, P0 + q1, P0 + q2].take 2) S
          have hcx : wr.cell? ⟨gL, 2, none⟩ = some (.int .i64 xk) := blk_cell hLr 2
          generalize hl : flipsB S ([P0 + q0, P0 + q1, P0 + q2].take 2) = l at *
          have HLL := Lib.hid hl
          clear hl
          obtain ⟨p, hp⟩ : ∃ p, p = P0 + q2 := ⟨_, rfl⟩
          have hpl : p / 8 < l.length := by omega
          have a1 : (P0 : Int) + (q2 : Int) = (p : Int) := by omega
          have a2 : IntKind.i64.wrap (p : Int) = (p : Int) := IntWalk.i64_in _ (by omega)
          obtain ⟨j, hj⟩ : ∃ j, j = p / 8 := ⟨_, rfl⟩
          obtain ⟨r, hr⟩ : ∃ r, r = p % 8 := ⟨_, rfl⟩
          have hr8 : r < 8 := by omega
          have a3 : (p : Int) / 8 = (j : Int) := by omega
          have a4 : (p : Int) % 8 = (r : Int) := by omega
          rw [← hj] at hpl
          have hjl : (j : Int) < (l.length : Int) := by omega
          have HJ := Lib.hid hj
          have HR := Lib.hid hr
          have HP := Lib.hid hp
          clear hj hr hp
          have hjS : (j : Int) < (N : Int) := by have := HN.out; omega
          have hjN : j < N := by have := HN.out; omega
          have a5 : Int.tdiv (p : Int) 8 = (j : Int) := by rw [Int.tdiv_eq_ediv_of_nonneg (by omega)]; exact a3
          have a6 : Int.tmod (p : Int) 8 = (r : Int) := by rw [Int.tmod_eq_emod_of_nonneg (by omega)]; exact a4
          have a7 : IntKind.i64.wrap (j : Int) = (j : Int) := IntWalk.i64_in _ (by omega)
          have a8 : IntKind.i64.wrap (r : Int) = (r : Int) := IntWalk.i64_in _ (by omega)
          obtain ⟨b0, hb0⟩ : ∃ b0, b0 = l.getD j 0 := ⟨_, rfl⟩
          obtain ⟨b2, hb2⟩ : ∃ b2, b2 = UInt8.ofNat (2 ^ r) := ⟨_, rfl⟩
          obtain ⟨y, hy⟩ : ∃ y, y = b0 ^^^ b2 := ⟨_, rfl⟩
          have a9 : IntKind.u8.wrap ((2 : Int) ^ r) = (b2.toNat : Int) := by rw [hb2]; exact wrap_pow hr8
          have a10 : bits .xor .u8 (b0.toNat : Int) (b2.toNat : Int) = (y.toNat : Int) := by
            have h1 := b0.toNat_lt
            have h2 := b2.toNat_lt
            rw [hy, UInt8.toNat_xor, u8_xor_nat _ _ (by omega) (by omega)]
          have HB0 := Lib.hid hb0
          have HB2 := Lib.hid hb2
          have HY := Lib.hid hy
          clear hb0 hb2 hy
          have e0 : ((2 : Nat) : Int) = 2 := rfl
          go_wp2_with fail
          simp only [e0, hq2]
          apply Rg.region_own 11 (fun W => Up w3 W) (fun g => g = g5) (Beg g5 l) rfl (by kernel_rfl) (by kernel_rfl) (by rintro g rfl; exact hbr.lt) hbr (fun w1 w2 h hs => h.sta hs (.inr rfl)) (fun w2 hK => keeps_fresh (wq := wr.drew) (hur.trans (Up.refl _).drew) (Nat.le_of_eq hg7) hK)
          · intro QN hQN
            iterate 4 (apply Rg.RK.ok; (· intro vs w1 hS; go_simp; with_reducible rfl); (· rfl); simp only [Act.put, List.setIfInBounds_toArray, List.set_cons_zero, List.set_cons_succ, Nat.reduceAdd])
            apply Rg.RK.okU [11]
            · intro vs w1 hS hf
              have hb := hf.1
              have hb1 : Beg g5 l w1 := hb
              have hb2 := hb1.cell hpl
              rw [← HB0.out] at hb2
              have hb3 : w1.cell? ⟨g5, j, none⟩ = some (.int .u8 (b0.toNat : Int)) := hb2
              clear hb2
              go_simp
              with_reducible rfl
            · rfl
            simp only [Act.put, List.setIfInBounds_toArray, List.set_cons_zero, List.set_cons_succ, Nat.reduceAdd]
            iterate 4 (apply Rg.RK.ok; (· intro vs w1 hS; go_simp; with_reducible rfl); (· rfl); simp only [Act.put, List.setIfInBounds_toArray, List.set_cons_zero, List.set_cons_succ, Nat.reduceAdd])
            (apply Rg.RK.ok; (· intro vs w1 hS; go_simp; with_reducible rfl); (· rfl); simp only [Act.put, List.setIfInBounds_toArray, List.set_cons_zero, List.set_cons_succ, Nat.reduceAdd])
            apply Rg.RK.opD (fun vs W => Beg g5 (l.set j y) W) (fun vs g => g = g5) [11] [11] [] (fun _ _ _ => ⟨rfl, rfl⟩)
            · exact fun vs W1 W2 h hs => h.sta hs (.inr rfl)
            · rfl
            · intro vs w2 hK hS hf K hKK
              have hb1 : Beg g5 l w2 := hf.1
              have r0 := hb1.cell hpl
              have r1 := hb1.free hpl
              have r2 := hb1.set hpl y
              rw [show bv y = .int .u8 (y.toNat : Int) from rfl] at r2
              have r3 := setc_keeps w2 w2 g5 j (.int .u8 (y.toNat : Int)) (Rg.Keeps.refl _ _)
              go_simp
              refine hKK.out undef _ r2 (Keeps.weak r3 fun x hx => ⟨11, List.mem_singleton.2 rfl, hx⟩) (fun x hx => ⟨?_, .inr ⟨11, List.mem_singleton.2 rfl, hx⟩⟩)
              have hxx : x = g5 := hx
              rw [hxx]; exact r2.lt
            simp only [Act.put, List.setIfInBounds_toArray, List.set_cons_zero, List.set_cons_succ, Nat.reduceAdd]
            apply Rg.RK.fin [10]
            intro vs w8 hK hS hf
            obtain ⟨hbn, -⟩ := hf
            refine hQN.out _ _ ?_
            clear hQN
            have hbn2 : Beg g5 (l.set j y) w8 := hbn
            have e : flipsB S ([P0 + q0, P0 + q1, P0 + q2].take (2 + 1)) = l.set j y := by
              show flipB (flipsB S ([P0 + q0, P0 + q1, P0 + q2].take 2)) (P0 + q2) = _
              rw [HLL.out]
              unfold flipB
              rw [← HP.out, ← HJ.out, ← HR.out, ← HB0.out, ← HB2.out, ← HY.out]
            have hLn : w8.heap[gL]? = some (.cells #[.int .i64 xi, .int .i64 xj, .int .i64 xk] 3 (0, 0)) := (hK.block gL (Array.getElem?_eq_some_iff.1 hLr).1 hneL).trans hLr
            rw [← e] at hbn2
            clear hbn hK hLr hbr
            go_wp2_with fail
            go_roundw
            case rel => exact ⟨2 + 1, by go_num, by omega, hS, hbn2, hLn⟩
            case measure => simp [intOf]
          · kernel_rfl
        · have hlaw := repl_flips g f4.out (m := mm) (by rw [HGL.out]; exact hmM) (ps := [q0, q1, q2]) (Nat.le_refl 3) (by
            intro p hp
            rw [← HE0.out, ← HE1.out, ← HD0.out, ← HZ.out]
            simp only [List.mem_cons, List.not_mem_nil, or_false] at hp
            rcases hp with rfl | rfl | rfl <;> omega)
          rw [← HE0.out, ← HP0.out, ← HS.out, show [q0, q1, q2].map (P0 + ·) = [P0 + q0, P0 + q1, P0 + q2] from rfl] at hlaw
          rw [show [P0 + q0, P0 + q1, P0 + q2].take 3 = [P0 + q0, P0 + q1, P0 + q2] from rfl] at hbr
          have hfl := flipsB_len [P0 + q0, P0 + q1, P0 + q2] S
          have hall := repl_all g f4.out
          rw [← HS.out, ← HN.out] at hall
          generalize flipsB S [P0 + q0, P0 + q1, P0 + q2] = fl at *
          have hrd := hbr.rd
          rw [hfl, ← HN.out] at hrd
          have HALL := Lib.hid hall
          have HLAW := Lib.hid hlaw
          have hu2r := hu3.trans hur
          clear hbr hLr hC0 hC1 hC2 hq0 hq1 hq2 hlaw hall hfl
          go_wp2_with fail
          refine (replay14_any (some ⟨g5, 0, none⟩) N c5 fl wr hrd (by omega) hcap).mono ?_
          intro e7 w7 h7
          by_cases he : fl = S
          · subst he
            rw [HALL.out] at h7
            obtain ⟨R, m6, rc6, rs6, rfl, hR6, hO6, hl6, hu7⟩ := h7
            (try dsimp only at hl6)
            have hrd7 := hrd.up hu7
            have hcv : (convert 26 9 (.slice (some ⟨g5, 0, none⟩) N c5)).run Try.prog w7 = .ok (.string (tx fl)) w7 := run_str c5 hrd7
            have hbeq : ((tx fl).toList == (tx fl).toList) = true := tx_beq rfl
            have hG7 := hG.rd.up (hu2r.trans hu7)
            have fo7 := f2.up (hu2r.trans hu7)
            have hrl6 : rwl rs6 = rwl gs := by rw [hl6, HG.out]
            have hsame := same14_any R m6 rc6 rs6 G m gc gs w7 hR6.rd hO6.ok hG7 fo7 hrl6 (fun r hr => by
              have h8 : r.l ∈ rwl gs := by rw [← hrl6]; exact List.mem_map.2 ⟨r, hr, rfl⟩
              obtain ⟨r2, h9, h10⟩ := List.mem_map.1 h8
              have h11 := f3 r2 h9
              rw [h10] at h11
              omega) (by
              have h8 := hR6.len
              have h9 := congrArg List.length hrl6
              rw [rwl_len, rwl_len] at h9
              omega)
            have HSAME := Lib.hid hsame
            clear hsame hrl6 hl6 hR6 hO6 hG7 fo7 HALL HLAW hrd
            go_wp2_with fail
            clear hcv
            refine HSAME.out.mono ?_
            rintro e8 w8 ⟨rfl, hu8⟩
            go_wp2_with fail
            refine (awake14_any w8).mono ?_
            rintro e9 w9 ⟨rfl, hu9⟩
            go_wp2_with fail
            go_ret
            exact ⟨rfl, (((hup2.trans hu2r).trans hu7).trans hu8).trans hu9⟩
          · rw [HLAW.out.resolve_left he] at h7
            obtain ⟨rfl, hu7⟩ := h7
            have hrd7 := hrd.up hu7
            have hcv : (convert 26 9 (.slice (some ⟨g5, 0, none⟩) N c5)).run Try.prog w7 = .ok (.string (tx fl)) w7 := run_str c5 hrd7
            have hbeq : ((tx fl).toList == (tx S).toList) = false := tx_bne he
            clear HALL HLAW hrd he
            go_wp2_with fail
            clear hcv
            refine (awake14_any w7).mono ?_
            rintro e9 w9 ⟨rfl, hu9⟩
            go_wp2_with fail
            go_ret
            exact ⟨rfl, ((hup2.trans hu2r).trans hu7).trans hu9⟩
    · kernel_rfl
end Go.Proofs.Ytnjmekjaingniaa.logTurned

/-
  'clepsydra/clepsydralaw14.LogTurned': for every input the law returns true; each argument reads behind the call as it read before. No condition.
-/
namespace Go.Proofs.Ytnjmekjaingniaa.logTurned
open Go.ChangeShapes Go.WideShapes Go.ChangeAt Go.RowKit
open Go.ChangeMaps (open_string shut_string)
set_option linter.unusedVariables false

set_option maxRecDepth 100000 in
theorem lifted (os : Os) (started : os.Started) (H : Type) (enc : TypeId × Value → H) :
    ReturnsInHanded {} Try.checked os 7 .any (Rows.logTurnedSpec.pre6 enc Try.prog Try.f7 Rows.logTurnedRow.domain false) (Rows.logTurnedSpec.post enc Try.prog Try.f7 false true false false) := by
  refine returnsInHanded_of_change (C := Try.checked) prog_own started (by kernel_rfl) Try.func7
    (ChangeSpec.witness6 (enc := enc) (C := Try.checked) false ⟨#[], #[.slice none 0 0, .int .i64 0, .int .i64 0, .int .i64 0, .int .i64 0], []⟩ 8 (by kernel_rfl) (by kernel_rfl) (by kernel_rfl) (by kernel_rfl)) ?_
  intro W base args ds gs before hval0 hW hcnd _
  have hval : ∀ (j : Nat) t v, Try.f7.params[j]? = some t → args[j]? = some v → Value.okWide Try.prog W .any base t v := hval0
  have hW' := hW
  obtain ⟨p, q, hA0, hV, rfl, hfz, hnd⟩ := hW
  have hA : DataW.TrodAll enc Try.prog W 0 (fun _ => true) true Try.f7.params.toList args.toList ds p := hA0
  rw [Try.params7] at hA hval
  obtain ⟨v0, vs0, d0, ds0, p0, q0, hargs, rfl, rfl, h0, r0⟩ := trodAll_cons hA
  obtain ⟨v1, vs1, d1, ds1, p1, q1, rfl, rfl, rfl, h1, r1⟩ := trodAll_cons r0
  obtain ⟨v2, vs2, d2, ds2, p2, q2, rfl, rfl, rfl, h2, r2⟩ := trodAll_cons r1
  obtain ⟨v3, vs3, d3, ds3, p3, q3, rfl, rfl, rfl, h3, r3⟩ := trodAll_cons r2
  obtain ⟨v4, vs4, d4, ds4, p4, q4, rfl, rfl, rfl, h4, r4⟩ := trodAll_cons r3
  obtain ⟨rfl, rfl, rfl⟩ := trodAll_nil r4
  obtain rfl : args = #[v0, v1, v2, v3, v4] := by cases args; simp_all
  obtain ⟨rfl, rfl⟩ := trodVars_none hV
  obtain ⟨a0, len0, cap0, rfl⟩ := okWide_slice Try.underlying33 (hval 0 33 v0 rfl rfl)
  have k0 := h0
  have lt0 : ∀ x ∈ p0, x.block < W.heap.size := by obtain ⟨m, hm⟩ := k0; exact DataW.trod_lt m _ _ _ hm
  obtain ⟨l0, w0⟩ := is_ri h0
  obtain ⟨a1, rfl, rfl, rfl, w1⟩ := open_int Try.underlying3 (hval 1 3 v1 rfl rfl) h1
  have b1 := bd_i64 w1
  obtain ⟨a2, rfl, rfl, rfl, w2⟩ := open_int Try.underlying3 (hval 2 3 v2 rfl rfl) h2
  have b2 := bd_i64 w2
  obtain ⟨a3, rfl, rfl, rfl, w3⟩ := open_int Try.underlying3 (hval 3 3 v3 rfl rfl) h3
  have b3 := bd_i64 w3
  obtain ⟨a4, rfl, rfl, rfl, w4⟩ := open_int Try.underlying3 (hval 4 3 v4 rfl rfl) h4
  have b4 := bd_i64 w4
  clear hA0 hval0
  refine (law_any a0 len0 cap0 l0 a1 a2 a3 a4 W w0 b1 b2 b3 b4).mono fun e W' ⟨he, bel⟩ => ?_
  subst he
  exact ⟨_, rfl, _, _, _, [], _, [], hW', trodAll_mk1 (shut_bool Try.underlying4 _), (trodAll_cons_mk (Below.trod laidOut (by kernel_rfl) (of_decide_eq_true (by kernel_rfl)) k0 bel lt0) (trodAll_cons_mk (shut_int Try.underlying3 w1) (trodAll_cons_mk (shut_int Try.underlying3 w2) (trodAll_cons_mk (shut_int Try.underlying3 w3) (trodAll_cons_mk (shut_int Try.underlying3 w4) trodAll_mk0))))), rfl, bel.frame _, fun h => by cases h⟩

theorem proved : Rows.LogTurnedSaid :=
  OpenClaim.holds_of_wide 7 Try.f7 rfl rfl rfl rfl rfl rfl rfl ⟨rfl, rfl, rfl, rfl, rfl⟩ rfl rfl rfl rfl rfl (by kernel_rfl) Try.func7 (by kernel_rfl)
    (of_decide_eq_true (by kernel_rfl)) (by unfold Func.isWrapper; first | (rw [if_pos (by decide +kernel)]; kernel_rfl) | (rw [if_neg (by decide +kernel)]; exact ⟨rfl, rfl⟩))
    (fun os started H enc _ => lifted os started H enc)
#print axioms proved
end Go.Proofs.Ytnjmekjaingniaa.logTurned
