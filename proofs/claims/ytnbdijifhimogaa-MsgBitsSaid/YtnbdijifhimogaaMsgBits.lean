/-
  The law MsgBits: the walk.
-/
import Derived.Test.YtnbdijifhimogaaMsgLaw
import Derived.Test.YtnbdijifhimogaaMsgW5
import Derived.Test.YtnbdijifhimogaaFrameLaw3
import Derived.Test.YtnbdijifhimogaaFrameW12
import Derived.Test.YtnbdijifhimogaaOpenMs
import Derived.Test.YtnbdijifhimogaaNumLaw
import Derived.IntWalk
namespace Go.Proofs.Ytnbdijifhimogaa.msgBits
open Go.RowKit
set_option linter.unusedVariables false
set_option linter.unusedSimpArgs false

theorem wrap_pow {r : Nat} (hr : r < 8) : IntKind.u8.wrap ((2 : Int) ^ r) = ((UInt8.ofNat (2 ^ r)).toNat : Int) := by
  rw [(pow_bits r hr).2, IntKind.wrap_u8]
  have h : r = 0 ∨ r = 1 ∨ r = 2 ∨ r = 3 ∨ r = 4 ∨ r = 5 ∨ r = 6 ∨ r = 7 := by omega
  rcases h with rfl | rfl | rfl | rfl | rfl | rfl | rfl | rfl <;> decide
theorem msg_flips {k f t : Nat} {id n : Nat} {l : List It} (h : msgB (k : Int) (f : Int) (t : Int) id n l = true) {ps : List Nat} (h3 : ps.length ≤ 3) (hb : ∀ p ∈ ps, p < 8 * (frameB 9 (msgD (k : Int) (f : Int) (t : Int) id n l)).length) :
    (flipsB (frameB 9 (msgD (k : Int) (f : Int) (t : Int) id n l)) ps = frameB 9 (msgD (k : Int) (f : Int) (t : Int) id n l) ∧ readM (flipsB (frameB 9 (msgD (k : Int) (f : Int) (t : Int) id n l)) ps) = (0, k, f, t, id, n, l)) ∨
    (flipsB (frameB 9 (msgD (k : Int) (f : Int) (t : Int) id n l)) ps ≠ frameB 9 (msgD (k : Int) (f : Int) (t : Int) id n l) ∧ ∃ ee, ee ≠ 0 ∧ readM (flipsB (frameB 9 (msgD (k : Int) (f : Int) (t : Int) id n l)) ps) = (ee, mt0)) := by
  have hl := msgD_le h
  by_cases he : flipsB (frameB 9 (msgD (k : Int) (f : Int) (t : Int) id n l)) ps = frameB 9 (msgD (k : Int) (f : Int) (t : Int) id n l)
  · left
    refine ⟨he, ?_⟩
    rw [he]
    exact readM_selfN h
  · right
    refine ⟨he, ?_⟩
    have h1 := (frame_flips 9 (msgD (k : Int) (f : Int) (t : Int) id n l) [] (by omega) h3 hb).resolve_left he
    rw [List.append_nil] at h1
    generalize flipsB (frameB 9 (msgD (k : Int) (f : Int) (t : Int) id n l)) ps = c at *
    have h2 : (takeF c 0).1 ≠ 0 := by
      unfold takeF
      rw [if_neg (by omega)]
      exact h1
    refine ⟨(takeF c 0).1, h2, ?_⟩
    unfold readM
    simp only []
    rw [if_pos h2]
set_option maxRecDepth 100000 in
set_option maxHeartbeats 16000000 in
theorem law_any (e : MsgV) (xi xj xk : Int) (w : World) (h0 : IsMsg w e) (b1 : -9223372036854775808 ≤ xi ∧ xi ≤ 9223372036854775807) (b2 : -9223372036854775808 ≤ xj ∧ xj ≤ 9223372036854775807) (b3 : -9223372036854775808 ≤ xk ∧ xk ≤ 9223372036854775807) :
    Calls Try.prog 7 #[.agg e.cs.toArray, .int .i64 xi, .int .i64 xj, .int .i64 xk] w fun e w' => e = .returned (.bool true) ∧ Up w w' := by
  obtain ⟨k, f, t, id, nn, A, an, ac, l⟩ := e
  obtain ⟨-, -, -, -, -, ha, hac, hacm⟩ := h0
  (try dsimp only at ha hac hacm)
  show Calls Try.prog 7 #[.agg #[.int .i64 k, .int .i64 f, .int .i64 t, .int .u64 (id : Int), .int .u64 (nn : Int), .slice A an ac], .int .i64 xi, .int .i64 xj, .int .i64 xk] w _
  obtain ⟨w2, hw2⟩ : ∃ w2, w2 = w.alloc (.cells #[.int .i64 k, .int .i64 f, .int .i64 t, .int .u64 (id : Int), .int .u64 (nn : Int), .slice A an ac] 25) := ⟨_, rfl⟩
  have hup2 : Up w w2 := by rw [hw2]; exact (Up.refl w).alloc _
  have hb2 : w2.heap[w.heap.size]? = some (.cells #[.int .i64 k, .int .i64 f, .int .i64 t, .int .u64 (id : Int), .int .u64 (nn : Int), .slice A an ac] 25 (0, 0)) := by
    rw [hw2]; exact heap_alloc_new w _
  have ha2 := ha.up hup2
  have HW := Lib.hid hw2
  clear hw2 ha b1 b2 b3
  obtain ⟨m1, hm1⟩ : ∃ x, x = msgB k f t id nn l := ⟨_, rfl⟩
  have HM1 := Lib.hid hm1
  clear hm1
  go_enter Try.func7, Try.ntmps7
  go_wp2_with fail
  rw [← HW.out]
  clear HW
  generalize w.heap.size = g1 at hb2 ⊢
  refine (rmok_any k f t id nn A an ac l w2 ha2 (by omega)).mono ?_
  rintro e w3 ⟨rfl, hu3⟩
  rw [← HM1.out]
  have hb3 := blk_up hu3 hb2
  have hup3 := hup2.trans hu3
  have ha3 := ha2.up hu3
  clear hb2 hup2 ha2 hu3
  have p0 := blk_cell hb3 0
  have p1 := blk_cell hb3 1
  have p2 := blk_cell hb3 2
  have p3 := blk_cell hb3 3
  have p4 := blk_cell hb3 4
  have p5 := blk_cell hb3 5
  cases m1
  · go_wp2_with fail
    refine (awake20_any (w3)).mono ?_
    rintro e w4 ⟨rfl, hu4⟩
    go_wp2_with fail
    go_ret
    exact ⟨rfl, hup3.trans hu4⟩
  · by_cases c1 : 60 < an
    · have c1i : (60 : Int) < (an : Int) := by omega
      go_wp2_with fail
      refine (awake20_any (w3)).mono ?_
      rintro e w4 ⟨rfl, hu4⟩
      go_wp2_with fail
      go_ret
      exact ⟨rfl, hup3.trans hu4⟩
    · have c1i : ¬ (60 : Int) < (an : Int) := by omega
      obtain ⟨⟨za1, -⟩, ⟨za2, -⟩, ⟨za3, -⟩, -⟩ := msgB_facts (HM1.out.symm)
      obtain ⟨kN, hkN⟩ : ∃ q : Nat, k = (q : Int) := ⟨k.toNat, by omega⟩
      obtain ⟨fN, hfN⟩ : ∃ q : Nat, f = (q : Int) := ⟨f.toNat, by omega⟩
      obtain ⟨tN, htN⟩ : ∃ q : Nat, t = (q : Int) := ⟨t.toNat, by omega⟩
      subst hkN; subst hfN; subst htN
      clear za1 za2 za3
      go_wp2_with fail
      clear p0 p1 p2 p3 p4 p5
      refine (rmsg_any kN fN tN id nn A an ac l w3 ha3 HM1.out.symm).mono ?_
      rintro e w5 ⟨rfl, hu5⟩
      have hdl := msgD_le HM1.out.symm
      have hfl := frameB_len 9 (msgD kN fN tN id nn l)
      have hlaw := fun (ps : List Nat) (h3 : ps.length ≤ 3) (hb : ∀ p ∈ ps, p < 8 * (frameB 9 (msgD (kN : Int) (fN : Int) (tN : Int) id nn l)).length) => msg_flips HM1.out.symm h3 hb
      generalize frameB 9 (msgD kN fN tN id nn l) = F1 at *
      generalize (msgD kN fN tN id nn l).length = d1 at *
      have HLAW := Lib.hid hlaw
      have hb5 := blk_up hu5 hb3
      have ha5 := ha3.up hu5
      have hup5 := hup3.trans hu5
      have hal := ha5.ilen
      have HAL := Lib.hid hal
      clear hb3 ha3 hup3 hu5 hlaw hal
      obtain ⟨c6, w6, hconv, hcap, hbeg, hu6⟩ := conv_beg w5 F1
      obtain ⟨m, hmL⟩ : ∃ m, m = F1.length := ⟨_, rfl⟩
      rw [← hmL] at hconv hcap hfl
      generalize hg7 : w5.heap.size = g5 at hconv hbeg
      have hmm : 12 ≤ m := by omega
      have hmx : m ≤ 50012 := by omega
      obtain ⟨Z, hZ⟩ : ∃ Z, Z = 8 * m := ⟨_, rfl⟩
      have a10 : IntKind.i64.wrap (8 * (m : Int)) = (Z : Int) := by rw [IntWalk.i64_in _ (by omega)]; omega
      have HZ := Lib.hid hZ
      have HML := Lib.hid hmL
      have HG7 := Lib.hid hg7
      have hF1 : F1.length ≤ 50012 := by omega
      obtain ⟨C0, hC0, _⟩ := i64_and_le xi 16777215 (by omega)
      obtain ⟨C1, hC1, _⟩ := i64_and_le xj 16777215 (by omega)
      obtain ⟨C2, hC2, _⟩ := i64_and_le xk 16777215 (by omega)
      replace hC0 : bits .and .i64 xi 16777215 = (C0 : Int) := hC0
      replace hC1 : bits .and .i64 xj 16777215 = (C1 : Int) := hC1
      replace hC2 : bits .and .i64 xk 16777215 = (C2 : Int) := hC2
      have hZ0 : 0 < Z := by omega
      have hZ1 : ¬ ((Z : Int) = 0) := by omega
      obtain ⟨q0, hq0, hq0Z⟩ : ∃ q : Nat, (C0 : Int) % (Z : Int) = (q : Int) ∧ q < Z := ⟨C0 % Z, by rw [Int.natCast_emod], Nat.mod_lt C0 hZ0⟩
      obtain ⟨q1, hq1, hq1Z⟩ : ∃ q : Nat, (C1 : Int) % (Z : Int) = (q : Int) ∧ q < Z := ⟨C1 % Z, by rw [Int.natCast_emod], Nat.mod_lt C1 hZ0⟩
      obtain ⟨q2, hq2, hq2Z⟩ : ∃ q : Nat, (C2 : Int) % (Z : Int) = (q : Int) ∧ q < Z := ⟨C2 % Z, by rw [Int.natCast_emod], Nat.mod_lt C2 hZ0⟩
      have hPZ : Z ≤ 8 * F1.length := by omega
      clear hmL hfl hdl hZ hg7
      go_wp2_with fail
      have hu7 : Up w5 (w6.alloc (.cells #[.int .i64 xi, .int .i64 xj, .int .i64 xk] 3)) := hu6.trans ((Up.refl _).alloc _)
      have hbeg7 : Beg g5 F1 (w6.alloc (.cells #[.int .i64 xi, .int .i64 xj, .int .i64 xk] 3)) := hbeg.up ((Up.refl _).alloc _)
      have hgL : (w6.alloc (.cells #[.int .i64 xi, .int .i64 xj, .int .i64 xk] 3)).heap[w6.heap.size]? = some (.cells #[.int .i64 xi, .int .i64 xj, .int .i64 xk] 3 (0, 0)) := Array.getElem?_push_size
      have hne : g5 < w6.heap.size := hbeg.lt
      have hneL : ¬ w6.heap.size = g5 := by omega
      generalize w6.alloc (.cells #[.int .i64 xi, .int .i64 xj, .int .i64 xk] 3) = w7 at *
      generalize w6.heap.size = gL at *
      clear hbeg hu6 hconv
      go_loopw [35] (fun i wr => ∃ t : Nat, i = .int .i64 (t : Int) ∧ t ≤ 3 ∧ Up w5 wr ∧ Beg g5 (flipsB F1 ([q0, q1, q2].take t)) wr ∧ wr.heap[gL]? = some (.cells #[.int .i64 xi, .int .i64 xj, .int .i64 xk] 3 (0, 0))) (fun i _ => 3 - (intOf i).toNat)
      case atStart => exact ⟨0, rfl, by omega, hu7, hbeg7, hgL⟩
      case round =>
        obtain ⟨t, rfl, ht, hur, hbr, hLr⟩ := hrel
        have hg7 := HG7.out
        have HF1 := Lib.hid hF1
        have hcases : t = 0 ∨ t = 1 ∨ t = 2 ∨ t = 3 := by omega
        rcases hcases with rfl | rfl | rfl | rfl
        · have hlt := flipsB_len ([q0, q1, q2].take 0) F1
          have hcx : wr.cell? ⟨gL, 0, none⟩ = some (.int .i64 xi) := blk_cell hLr 0
          generalize hl : flipsB F1 ([q0, q1, q2].take 0) = l at *
          have HLL := Lib.hid hl
          clear hl
          obtain ⟨p, hp⟩ : ∃ p, p = q0 := ⟨_, rfl⟩
          have hpl : p / 8 < l.length := by omega
          replace hq0 : (C0 : Int) % (Z : Int) = (p : Int) := by rw [hq0, hp]
          have a2 : IntKind.i64.wrap (p : Int) = (p : Int) := IntWalk.i64_in _ (by omega)
          obtain ⟨j, hj⟩ : ∃ j, j = p / 8 := ⟨_, rfl⟩
          obtain ⟨r, hr⟩ : ∃ r, r = p % 8 := ⟨_, rfl⟩
          have hr8 : r < 8 := by omega
          have a3 : (p : Int) / 8 = (j : Int) := by omega
          have a4 : (p : Int) % 8 = (r : Int) := by omega
          rw [← hj] at hpl
          have hjl : (j : Int) < (l.length : Int) := by omega
          have HJ := Lib.hid hj
          have HR := Lib.hid hr
          have HP := Lib.hid hp
          clear hj hr hp
          have hjS : (j : Int) < (F1.length : Int) := by omega
          have hjN : j < F1.length := by omega
          have hjM : (j : Int) < (m : Int) := by have := HML.out; omega
          have hjMN : j < m := by have := HML.out; omega
          have a5 : Int.tdiv (p : Int) 8 = (j : Int) := by rw [Int.tdiv_eq_ediv_of_nonneg (by omega)]; exact a3
          have a6 : Int.tmod (p : Int) 8 = (r : Int) := by rw [Int.tmod_eq_emod_of_nonneg (by omega)]; exact a4
          have a7 : IntKind.i64.wrap (j : Int) = (j : Int) := IntWalk.i64_in _ (by omega)
          have a8 : IntKind.i64.wrap (r : Int) = (r : Int) := IntWalk.i64_in _ (by omega)
          obtain ⟨b0, hb0⟩ : ∃ b0, b0 = l.getD j 0 := ⟨_, rfl⟩
          obtain ⟨b2, hb2⟩ : ∃ b2, b2 = UInt8.ofNat (2 ^ r) := ⟨_, rfl⟩
          obtain ⟨y, hy⟩ : ∃ y, y = b0 ^^^ b2 := ⟨_, rfl⟩
          have a9 : IntKind.u8.wrap ((2 : Int) ^ r) = (b2.toNat : Int) := by rw [hb2]; exact wrap_pow hr8
          have a10 : bits .xor .u8 (b0.toNat : Int) (b2.toNat : Int) = (y.toNat : Int) := by
            have h1 := b0.toNat_lt
            have h2 := b2.toNat_lt
            rw [hy, UInt8.toNat_xor, u8_xor_nat _ _ (by omega) (by omega)]
          have HB0 := Lib.hid hb0
          have HB2 := Lib.hid hb2
          have HY := Lib.hid hy
          clear hb0 hb2 hy
          have e0 : ((0 : Nat) : Int) = 0 := rfl
          go_wp2_with fail
          simp only [e0, hq0]
          apply Rg.region_own 11 (fun W => Up w5 W) (fun g => g = g5) (Beg g5 l) rfl (by kernel_rfl) (by kernel_rfl) (by rintro g rfl; exact hbr.lt) hbr (fun w1 w2 h hs => h.sta hs (.inr rfl)) (fun w2 hK => keepsUpM (wq := wr.drew) (hur.trans (Up.refl _).drew) (Nat.le_of_eq hg7) hK)
          · intro QN hQN
            iterate 4 (apply Rg.RK.ok; (· intro vs w1 hS; go_simp; with_reducible rfl); (· rfl); simp only [Act.put, List.setIfInBounds_toArray, List.set_cons_zero, List.set_cons_succ, Nat.reduceAdd])
            apply Rg.RK.okU [11]
            · intro vs w1 hS hf
              have hb := hf.1
              have hb1 : Beg g5 l w1 := hb
              have hb2 := hb1.cell hpl
              rw [← HB0.out] at hb2
              have hb3 : w1.cell? ⟨g5, j, none⟩ = some (.int .u8 (b0.toNat : Int)) := hb2
              clear hb2
              go_simp
              with_reducible rfl
            · rfl
            simp only [Act.put, List.setIfInBounds_toArray, List.set_cons_zero, List.set_cons_succ, Nat.reduceAdd]
            iterate 4 (apply Rg.RK.ok; (· intro vs w1 hS; go_simp; with_reducible rfl); (· rfl); simp only [Act.put, List.setIfInBounds_toArray, List.set_cons_zero, List.set_cons_succ, Nat.reduceAdd])
            (apply Rg.RK.ok; (· intro vs w1 hS; go_simp; with_reducible rfl); (· rfl); simp only [Act.put, List.setIfInBounds_toArray, List.set_cons_zero, List.set_cons_succ, Nat.reduceAdd])
            apply Rg.RK.opD (fun vs W => Beg g5 (l.set j y) W) (fun vs g => g = g5) [11] [11] [] (fun _ _ _ => ⟨rfl, rfl⟩)
            · exact fun vs W1 W2 h hs => h.sta hs (.inr rfl)
            · rfl
            · intro vs w2 hK hS hf K hKK
              have hb1 : Beg g5 l w2 := hf.1
              have r0 := hb1.cell hpl
              have r1 := hb1.free hpl
              have r2 := hb1.set hpl y
              rw [show bv y = .int .u8 (y.toNat : Int) from rfl] at r2
              have r3 := setc_keeps w2 w2 g5 j (.int .u8 (y.toNat : Int)) (Rg.Keeps.refl _ _)
              go_simp
              refine hKK.out undef _ r2 (Keeps.weak r3 fun x hx => ⟨11, List.mem_singleton.2 rfl, hx⟩) (fun x hx => ⟨?_, .inr ⟨11, List.mem_singleton.2 rfl, hx⟩⟩)
              have hxx : x = g5 := hx
              rw [hxx]; exact r2.lt
            simp only [Act.put, List.setIfInBounds_toArray, List.set_cons_zero, List.set_cons_succ, Nat.reduceAdd]
            apply Rg.RK.fin [10]
            intro vs w8 hK hS hf
            obtain ⟨hbn, -⟩ := hf
            refine hQN.out _ _ ?_
            clear hQN
            have hbn2 : Beg g5 (l.set j y) w8 := hbn
            have e : flipsB F1 ([q0, q1, q2].take (0 + 1)) = l.set j y := by
              show flipB (flipsB F1 ([q0, q1, q2].take 0)) q0 = _
              rw [HLL.out]
              unfold flipB
              rw [← HP.out, ← HJ.out, ← HR.out, ← HB0.out, ← HB2.out, ← HY.out]
            have hLn : w8.heap[gL]? = some (.cells #[.int .i64 xi, .int .i64 xj, .int .i64 xk] 3 (0, 0)) := (hK.block gL (Array.getElem?_eq_some_iff.1 hLr).1 hneL).trans hLr
            rw [← e] at hbn2
            clear hbn hK hLr hbr
            go_wp2_with fail
            go_roundw
            case rel => exact ⟨0 + 1, by go_num, by omega, hS, hbn2, hLn⟩
            case measure => simp [intOf]
          · kernel_rfl
        · have hlt := flipsB_len ([q0, q1, q2].take 1) F1
          have hcx : wr.cell? ⟨gL, 1, none⟩ = some (.int .i64 xj) := blk_cell hLr 1
          generalize hl : flipsB F1 ([q0, q1, q2].take 1) = l at *
          have HLL := Lib.hid hl
          clear hl
          obtain ⟨p, hp⟩ : ∃ p, p = q1 := ⟨_, rfl⟩
          have hpl : p / 8 < l.length := by omega
          replace hq1 : (C1 : Int) % (Z : Int) = (p : Int) := by rw [hq1, hp]
          have a2 : IntKind.i64.wrap (p : Int) = (p : Int) := IntWalk.i64_in _ (by omega)
          obtain ⟨j, hj⟩ : ∃ j, j = p / 8 := ⟨_, rfl⟩
          obtain ⟨r, hr⟩ : ∃ r, r = p % 8 := ⟨_, rfl⟩
          have hr8 : r < 8 := by omega
          have a3 : (p : Int) / 8 = (j : Int) := by omega
          have a4 : (p : Int) % 8 = (r : Int) := by omega
          rw [← hj] at hpl
          have hjl : (j : Int) < (l.length : Int) := by omega
          have HJ := Lib.hid hj
          have HR := Lib.hid hr
          have HP := Lib.hid hp
          clear hj hr hp
          have hjS : (j : Int) < (F1.length : Int) := by omega
          have hjN : j < F1.length := by omega
          have hjM : (j : Int) < (m : Int) := by have := HML.out; omega
          have hjMN : j < m := by have := HML.out; omega
          have a5 : Int.tdiv (p : Int) 8 = (j : Int) := by rw [Int.tdiv_eq_ediv_of_nonneg (by omega)]; exact a3
          have a6 : Int.tmod (p : Int) 8 = (r : Int) := by rw [Int.tmod_eq_emod_of_nonneg (by omega)]; exact a4
          have a7 : IntKind.i64.wrap (j : Int) = (j : Int) := IntWalk.i64_in _ (by omega)
          have a8 : IntKind.i64.wrap (r : Int) = (r : Int) := IntWalk.i64_in _ (by omega)
          obtain ⟨b0, hb0⟩ : ∃ b0, b0 = l.getD j 0 := ⟨_, rfl⟩
          obtain ⟨b2, hb2⟩ : ∃ b2, b2 = UInt8.ofNat (2 ^ r) := ⟨_, rfl⟩
          obtain ⟨y, hy⟩ : ∃ y, y = b0 ^^^ b2 := ⟨_, rfl⟩
          have a9 : IntKind.u8.wrap ((2 : Int) ^ r) = (b2.toNat : Int) := by rw [hb2]; exact wrap_pow hr8
          have a10 : bits .xor .u8 (b0.toNat : Int) (b2.toNat : Int) = (y.toNat : Int) := by
            have h1 := b0.toNat_lt
            have h2 := b2.toNat_lt
            rw [hy, UInt8.toNat_xor, u8_xor_nat _ _ (by omega) (by omega)]
          have HB0 := Lib.hid hb0
          have HB2 := Lib.hid hb2
          have HY := Lib.hid hy
          clear hb0 hb2 hy
          have e0 : ((1 : Nat) : Int) = 1 := rfl
          go_wp2_with fail
          simp only [e0, hq1]
          apply Rg.region_own 11 (fun W => Up w5 W) (fun g => g = g5) (Beg g5 l) rfl (by kernel_rfl) (by kernel_rfl) (by rintro g rfl; exact hbr.lt) hbr (fun w1 w2 h hs => h.sta hs (.inr rfl)) (fun w2 hK => keepsUpM (wq := wr.drew) (hur.trans (Up.refl _).drew) (Nat.le_of_eq hg7) hK)
          · intro QN hQN
            iterate 4 (apply Rg.RK.ok; (· intro vs w1 hS; go_simp; with_reducible rfl); (· rfl); simp only [Act.put, List.setIfInBounds_toArray, List.set_cons_zero, List.set_cons_succ, Nat.reduceAdd])
            apply Rg.RK.okU [11]
            · intro vs w1 hS hf
              have hb := hf.1
              have hb1 : Beg g5 l w1 := hb
              have hb2 := hb1.cell hpl
              rw [← HB0.out] at hb2
              have hb3 : w1.cell? ⟨g5, j, none⟩ = some (.int .u8 (b0.toNat : Int)) := hb2
              clear hb2
              go_simp
              with_reducible rfl
            · rfl
            simp only [Act.put, List.setIfInBounds_toArray, List.set_cons_zero, List.set_cons_succ, Nat.reduceAdd]
            iterate 4 (apply Rg.RK.ok; (· intro vs w1 hS; go_simp; with_reducible rfl); (· rfl); simp only [Act.put, List.setIfInBounds_toArray, List.set_cons_zero, List.set_cons_succ, Nat.reduceAdd])
            (apply Rg.RK.ok; (· intro vs w1 hS; go_simp; with_reducible rfl); (· rfl); simp only [Act.put, List.setIfInBounds_toArray, List.set_cons_zero, List.set_cons_succ, Nat.reduceAdd])
            apply Rg.RK.opD (fun vs W => Beg g5 (l.set j y) W) (fun vs g => g = g5) [11] [11] [] (fun _ _ _ => ⟨rfl, rfl⟩)
            · exact fun vs W1 W2 h hs => h.sta hs (.inr rfl)
            · rfl
            · intro vs w2 hK hS hf K hKK
              have hb1 : Beg g5 l w2 := hf.1
              have r0 := hb1.cell hpl
              have r1 := hb1.free hpl
              have r2 := hb1.set hpl y
              rw [show bv y = .int .u8 (y.toNat : Int) from rfl] at r2
              have r3 := setc_keeps w2 w2 g5 j (.int .u8 (y.toNat : Int)) (Rg.Keeps.refl _ _)
              go_simp
              refine hKK.out undef _ r2 (Keeps.weak r3 fun x hx => ⟨11, List.mem_singleton.2 rfl, hx⟩) (fun x hx => ⟨?_, .inr ⟨11, List.mem_singleton.2 rfl, hx⟩⟩)
              have hxx : x = g5 := hx
              rw [hxx]; exact r2.lt
            simp only [Act.put, List.setIfInBounds_toArray, List.set_cons_zero, List.set_cons_succ, Nat.reduceAdd]
            apply Rg.RK.fin [10]
            intro vs w8 hK hS hf
            obtain ⟨hbn, -⟩ := hf
            refine hQN.out _ _ ?_
            clear hQN
            have hbn2 : Beg g5 (l.set j y) w8 := hbn
            have e : flipsB F1 ([q0, q1, q2].take (1 + 1)) = l.set j y := by
              show flipB (flipsB F1 ([q0, q1, q2].take 1)) q1 = _
              rw [HLL.out]
              unfold flipB
              rw [← HP.out, ← HJ.out, ← HR.out, ← HB0.out, ← HB2.out, ← HY.out]
            have hLn : w8.heap[gL]? = some (.cells #[.int .i64 xi, .int .i64 xj, .int .i64 xk] 3 (0, 0)) := (hK.block gL (Array.getElem?_eq_some_iff.1 hLr).1 hneL).trans hLr
            rw [← e] at hbn2
            clear hbn hK hLr hbr
            go_wp2_with fail
            go_roundw
            case rel => exact ⟨1 + 1, by go_num, by omega, hS, hbn2, hLn⟩
            case measure => simp [intOf]
          · kernel_rfl
        · have hlt := flipsB_len ([q0, q1, q2].take 2) F1
          have hcx : wr.cell? ⟨gL, 2, none⟩ = some (.int .i64 xk) := blk_cell hLr 2
          generalize hl : flipsB F1 ([q0, q1, q2].take 2) = l at *
          have HLL := Lib.hid hl
          clear hl
          obtain ⟨p, hp⟩ : ∃ p, p = q2 := ⟨_, rfl⟩
          have hpl : p / 8 < l.length := by omega
          replace hq2 : (C2 : Int) % (Z : Int) = (p : Int) := by rw [hq2, hp]
          have a2 : IntKind.i64.wrap (p : Int) = (p : Int) := IntWalk.i64_in _ (by omega)
          obtain ⟨j, hj⟩ : ∃ j, j = p / 8 := ⟨_, rfl⟩
          obtain ⟨r, hr⟩ : ∃ r, r = p % 8 := ⟨_, rfl⟩
          have hr8 : r < 8 := by omega
          have a3 : (p : Int) / 8 = (j : Int) := by omega
          have a4 : (p : Int) % 8 = (r : Int) := by omega
          rw [← hj] at hpl
          have hjl : (j : Int) < (l.length : Int) := by omega
          have HJ := Lib.hid hj
          have HR := Lib.hid hr
          have HP := Lib.hid hp
          clear hj hr hp
          have hjS : (j : Int) < (F1.length : Int) := by omega
          have hjN : j < F1.length := by omega
          have hjM : (j : Int) < (m : Int) := by have := HML.out; omega
          have hjMN : j < m := by have := HML.out; omega
          have a5 : Int.tdiv (p : Int) 8 = (j : Int) := by rw [Int.tdiv_eq_ediv_of_nonneg (by omega)]; exact a3
          have a6 : Int.tmod (p : Int) 8 = (r : Int) := by rw [Int.tmod_eq_emod_of_nonneg (by omega)]; exact a4
          have a7 : IntKind.i64.wrap (j : Int) = (j : Int) := IntWalk.i64_in _ (by omega)
          have a8 : IntKind.i64.wrap (r : Int) = (r : Int) := IntWalk.i64_in _ (by omega)
          obtain ⟨b0, hb0⟩ : ∃ b0, b0 = l.getD j 0 := ⟨_, rfl⟩
          obtain ⟨b2, hb2⟩ : ∃ b2, b2 = UInt8.ofNat (2 ^ r) := ⟨_, rfl⟩
          obtain ⟨y, hy⟩ : ∃ y, y = b0 ^^^ b2 := ⟨_, rfl⟩
          have a9 : IntKind.u8.wrap ((2 : Int) ^ r) = (b2.toNat : Int) := by rw [hb2]; exact wrap_pow hr8
          have a10 : bits .xor .u8 (b0.toNat : Int) (b2.toNat : Int) = (y.toNat : Int) := by
            have h1 := b0.toNat_lt
            have h2 := b2.toNat_lt
            rw [hy, UInt8.toNat_xor, u8_xor_nat _ _ (by omega) (by omega)]
          have HB0 := Lib.hid hb0
          have HB2 := Lib.hid hb2
          have HY := Lib.hid hy
          clear hb0 hb2 hy
          have e0 : ((2 : Nat) : Int) = 2 := rfl
          go_wp2_with fail
          simp only [e0, hq2]
          apply Rg.region_own 11 (fun W => Up w5 W) (fun g => g = g5) (Beg g5 l) rfl (by kernel_rfl) (by kernel_rfl) (by rintro g rfl; exact hbr.lt) hbr (fun w1 w2 h hs => h.sta hs (.inr rfl)) (fun w2 hK => keepsUpM (wq := wr.drew) (hur.trans (Up.refl _).drew) (Nat.le_of_eq hg7) hK)
          · intro QN hQN
            iterate 4 (apply Rg.RK.ok; (· intro vs w1 hS; go_simp; with_reducible rfl); (· rfl); simp only [Act.put, List.setIfInBounds_toArray, List.set_cons_zero, List.set_cons_succ, Nat.reduceAdd])
            apply Rg.RK.okU [11]
            · intro vs w1 hS hf
              have hb := hf.1
              have hb1 : Beg g5 l w1 := hb
              have hb2 := hb1.cell hpl
              rw [← HB0.out] at hb2
              have hb3 : w1.cell? ⟨g5, j, none⟩ = some (.int .u8 (b0.toNat : Int)) := hb2
              clear hb2
              go_simp
              with_reducible rfl
            · rfl
            simp only [Act.put, List.setIfInBounds_toArray, List.set_cons_zero, List.set_cons_succ, Nat.reduceAdd]
            iterate 4 (apply Rg.RK.ok; (· intro vs w1 hS; go_simp; with_reducible rfl); (· rfl); simp only [Act.put, List.setIfInBounds_toArray, List.set_cons_zero, List.set_cons_succ, Nat.reduceAdd])
            (apply Rg.RK.ok; (· intro vs w1 hS; go_simp; with_reducible rfl); (· rfl); simp only [Act.put, List.setIfInBounds_toArray, List.set_cons_zero, List.set_cons_succ, Nat.reduceAdd])
            apply Rg.RK.opD (fun vs W => Beg g5 (l.set j y) W) (fun vs g => g = g5) [11] [11] [] (fun _ _ _ => ⟨rfl, rfl⟩)
            · exact fun vs W1 W2 h hs => h.sta hs (.inr rfl)
            · rfl
            · intro vs w2 hK hS hf K hKK
              have hb1 : Beg g5 l w2 := hf.1
              have r0 := hb1.cell hpl
              have r1 := hb1.free hpl
              have r2 := hb1.set hpl y
              rw [show bv y = .int .u8 (y.toNat : Int) from rfl] at r2
              have r3 := setc_keeps w2 w2 g5 j (.int .u8 (y.toNat : Int)) (Rg.Keeps.refl _ _)
              go_simp
              refine hKK.out undef _ r2 (Keeps.weak r3 fun x hx => ⟨11, List.mem_singleton.2 rfl, hx⟩) (fun x hx => ⟨?_, .inr ⟨11, List.mem_singleton.2 rfl, hx⟩⟩)
              have hxx : x = g5 := hx
              rw [hxx]; exact r2.lt
            simp only [Act.put, List.setIfInBounds_toArray, List.set_cons_zero, List.set_cons_succ, Nat.reduceAdd]
            apply Rg.RK.fin [10]
            intro vs w8 hK hS hf
            obtain ⟨hbn, -⟩ := hf
            refine hQN.out _ _ ?_
            clear hQN
            have hbn2 : Beg g5 (l.set j y) w8 := hbn
            have e : flipsB F1 ([q0, q1, q2].take (2 + 1)) = l.set j y := by
              show flipB (flipsB F1 ([q0, q1, q2].take 2)) q2 = _
              rw [HLL.out]
              unfold flipB
              rw [← HP.out, ← HJ.out, ← HR.out, ← HB0.out, ← HB2.out, ← HY.out]
            have hLn : w8.heap[gL]? = some (.cells #[.int .i64 xi, .int .i64 xj, .int .i64 xk] 3 (0, 0)) := (hK.block gL (Array.getElem?_eq_some_iff.1 hLr).1 hneL).trans hLr
            rw [← e] at hbn2
            clear hbn hK hLr hbr
            go_wp2_with fail
            go_roundw
            case rel => exact ⟨2 + 1, by go_num, by omega, hS, hbn2, hLn⟩
            case measure => simp [intOf]
          · kernel_rfl
        · rw [show ([q0, q1, q2].take 3) = [q0, q1, q2] from rfl] at hbr
          have hps : ∀ p ∈ [q0, q1, q2], p < 8 * F1.length := by
            intro p hp
            simp only [List.mem_cons, List.not_mem_nil, or_false] at hp
            rcases hp with rfl | rfl | rfl <;> omega
          have hl3 := HLAW.out [q0, q1, q2] (Nat.le_refl 3) hps
          have hfl := flipsB_len [q0, q1, q2] F1
          generalize flipsB F1 [q0, q1, q2] = fl at *
          have hrd := hbr.rd
          rw [hfl, ← HML.out] at hrd
          have hb7 := blk_up hur hb5
          have ha7 := ha5.up hur
          have hup7 := hup5.trans hur
          clear hbr hps hLr hC0 hC1 hC2 hq0 hq1 hq2 a10 hg7 HLAW hfl hb5 ha5 hup5
          go_wp2_with fail
          refine (mread_any (some ⟨g5, 0, none⟩) m c6 fl wr hrd (by omega) hcap).mono ?_
          rintro e w8 ⟨Q, qn, qc, rfl, hQ, hqc, hu8⟩
          rcases hl3 with ⟨he, hs⟩ | ⟨he, ee, hee, hs⟩
          · rw [hs] at hQ ⊢
            (try dsimp only at hQ ⊢)
            have s2 := tx_beq he
            have hS2 := same_selfM (kN : Int) (fN : Int) (tN : Int) id nn l
            have HS2 := Lib.hid hS2
            clear hs he hS2
            have hql := hQ.ilen
            have HQL := Lib.hid hql
            clear hql
            have hub : Up w8 (w8.alloc (.cells #[.int .i64 (kN), .int .i64 (fN), .int .i64 (tN), .int .u64 (id), .int .u64 (nn), .slice Q qn qc] 25)) := (Up.refl w8).alloc _
            have hy9 : (w8.alloc (.cells #[.int .i64 (kN), .int .i64 (fN), .int .i64 (tN), .int .u64 (id), .int .u64 (nn), .slice Q qn qc] 25)).heap[w8.heap.size]? = some (.cells #[.int .i64 (kN), .int .i64 (fN), .int .i64 (tN), .int .u64 (id), .int .u64 (nn), .slice Q qn qc] 25 (0, 0)) := heap_alloc_new w8 _
            have hu89 := hu8.trans hub
            have hb9 := blk_up hu89 hb7
            have ha9 := ha7.up hu89
            have hQ9 := hQ.up hub
            have hrd9 := hrd.up hu89
            have hcv : (convert 28 9 (.slice (some ⟨g5, 0, none⟩) m c6)).run Try.prog (w8.alloc (.cells #[.int .i64 (kN), .int .i64 (fN), .int .i64 (tN), .int .u64 (id), .int .u64 (nn), .slice Q qn qc] 25)) = .ok (.string (tx fl)) _ := run_str c6 hrd9
            have hup9 := hup7.trans hu89
            have p0 := blk_cell hb9 0
            have p1 := blk_cell hb9 1
            have p2 := blk_cell hb9 2
            have p3 := blk_cell hb9 3
            have p4 := blk_cell hb9 4
            have p5 := blk_cell hb9 5
            have q0 := blk_cell hy9 0
            have q1 := blk_cell hy9 1
            have q2 := blk_cell hy9 2
            have q3 := blk_cell hy9 3
            have q4 := blk_cell hy9 4
            have q5 := blk_cell hy9 5
            clear hb7 ha7 hQ hrd hrd9 hup7 hub hu89 hu8
            go_wp2_with fail
            clear hcv
            clear p0 p1 p2 p3 p4 p5
            clear q0 q1 q2 q3 q4 q5
            refine (rmsame_any (kN : Int) (fN : Int) (tN : Int) id nn Q qn qc l (kN : Int) (fN : Int) (tN : Int) id nn A an ac l _ hQ9 ha9 (by have := HQL.out; have := HAL.out; omega) (by omega)).mono ?_
            rintro e w10 ⟨rfl, hu10⟩
            rw [HS2.out]
            go_wp2_with fail
            refine (awake20_any w10).mono ?_
            rintro e w11 ⟨rfl, hu11⟩
            go_wp2_with fail
            go_ret
            exact ⟨rfl, (hup9.trans hu10).trans hu11⟩
          · rw [hs] at hQ ⊢
            (try dsimp only [mt0] at hQ ⊢)
            have s2 := tx_bne he
            have s5 : ((ee : Int) != 0) = true := by simp; omega
            have hS2 := same_selfM 0 0 0 0 0 []
            have HS2 := Lib.hid hS2
            clear hs he hS2 hee
            have hql := hQ.ilen
            have HQL := Lib.hid hql
            clear hql
            have hub : Up w8 (w8.alloc (.cells #[.int .i64 (0), .int .i64 (0), .int .i64 (0), .int .u64 (0), .int .u64 (0), .slice Q qn qc] 25)) := (Up.refl w8).alloc _
            have hy9 : (w8.alloc (.cells #[.int .i64 (0), .int .i64 (0), .int .i64 (0), .int .u64 (0), .int .u64 (0), .slice Q qn qc] 25)).heap[w8.heap.size]? = some (.cells #[.int .i64 (0), .int .i64 (0), .int .i64 (0), .int .u64 (0), .int .u64 (0), .slice Q qn qc] 25 (0, 0)) := heap_alloc_new w8 _
            have hu89 := hu8.trans hub
            have hb9 := blk_up hu89 hb7
            have ha9 := ha7.up hu89
            have hQ9 := hQ.up hub
            have hrd9 := hrd.up hu89
            have hcv : (convert 28 9 (.slice (some ⟨g5, 0, none⟩) m c6)).run Try.prog (w8.alloc (.cells #[.int .i64 (0), .int .i64 (0), .int .i64 (0), .int .u64 (0), .int .u64 (0), .slice Q qn qc] 25)) = .ok (.string (tx fl)) _ := run_str c6 hrd9
            have hup9 := hup7.trans hu89
            have p0 := blk_cell hb9 0
            have p1 := blk_cell hb9 1
            have p2 := blk_cell hb9 2
            have p3 := blk_cell hb9 3
            have p4 := blk_cell hb9 4
            have p5 := blk_cell hb9 5
            have q0 := blk_cell hy9 0
            have q1 := blk_cell hy9 1
            have q2 := blk_cell hy9 2
            have q3 := blk_cell hy9 3
            have q4 := blk_cell hy9 4
            have q5 := blk_cell hy9 5
            clear hb7 ha7 hQ hrd hrd9 hup7 hub hu89 hu8
            go_wp2_with fail
            clear hcv
            clear p0 p1 p2 p3 p4 p5
            clear q0 q1 q2 q3 q4 q5
            refine (rmsame_any 0 0 0 0 0 Q qn qc [] 0 0 0 0 0 none 0 0 [] _ hQ9 Rd.empty (by have := HQL.out; simp at this; omega) (by omega)).mono ?_
            rintro e w10 ⟨rfl, hu10⟩
            rw [HS2.out]
            go_wp2_with fail
            refine (awake20_any w10).mono ?_
            rintro e w11 ⟨rfl, hu11⟩
            go_wp2_with fail
            go_ret
            exact ⟨rfl, (hup9.trans hu10).trans hu11⟩
end Go.Proofs.Ytnbdijifhimogaa.msgBits
