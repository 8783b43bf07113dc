/-
  The law MsgHostile: the walk.
-/
import Derived.Test.YtnbdijifhimogaaMsgLaw
import Derived.Test.YtnbdijifhimogaaMsgW5
import Derived.Test.YtnbdijifhimogaaMsgW7
import Derived.Test.YtnbdijifhimogaaBegC
import Derived.Test.YtnbdijifhimogaaOpenMs
import Derived.Test.YtnbdijifhimogaaOpen
import Derived.Test.YtnbdijifhimogaaNumLaw
namespace Go.Proofs.Ytnbdijifhimogaa.msgHostile
open Go.RowKit
set_option linter.unusedVariables false
set_option linter.unusedSimpArgs false

theorem xor_byte (x y : Int) : ∃ z : UInt8, bits .xor .u8 x y = (z.toNat : Int) := by
  have h : ∃ q : Int, bits .xor .u8 x y = IntKind.u8.wrap q := ⟨_, rfl⟩
  obtain ⟨q, hq⟩ := h
  refine ⟨UInt8.ofNat (q % 256).toNat, ?_⟩
  rw [hq, IntKind.wrap_u8]
  have h0 : 0 ≤ q % 256 := by omega
  have h1 : q % 256 < 256 := by omega
  simp
  omega
theorem readX_len (k f t : Nat) (r : List UInt8) : (readX k f t r).2.2.2.2.2.2.length ≤ 1500 := by
  unfold readX
  simp only []
  split
  · exact Nat.zero_le _
  · split
    · exact Nat.zero_le _
    · rename_i h
      have hm : msgB (k : Int) (f : Int) (t : Int) ((takesL 2 [] r).2.1.getD 0 0) ((takesL 2 [] r).2.1.getD 1 0) (readL (takesL 2 [] r).2.2).2 = true := by
        cases hq : msgB (k : Int) (f : Int) (t : Int) ((takesL 2 [] r).2.1.getD 0 0) ((takesL 2 [] r).2.1.getD 1 0) (readL (takesL 2 [] r).2.2).2
        · exact absurd (.inr hq) h
        · rfl
      exact (msgB_facts hm).2.2.2.2.2.1
theorem readM_len (bs : List UInt8) : (readM bs).2.2.2.2.2.2.length ≤ 1500 := by
  unfold readM
  simp only []
  split
  · exact Nat.zero_le _
  · split
    · exact Nat.zero_le _
    · exact readX_len _ _ _ _
set_option maxRecDepth 100000 in
set_option maxHeartbeats 16000000 in
theorem law_any (B : Option Addr) (n c : Nat) (bs : List UInt8) (e : MsgV) (at0 by0 cut : Int) (U : Option Addr) (un uc : Nat) (us : List UInt8) (w : World) (h0 : IsB w B n c bs) (h1 : IsMsg w e) (b2 : -9223372036854775808 ≤ at0 ∧ at0 ≤ 9223372036854775807)
    (b3 : 0 ≤ by0 ∧ by0 ≤ 255) (b4 : -9223372036854775808 ≤ cut ∧ cut ≤ 9223372036854775807) (h5 : IsB w U un uc us) :
    Calls Try.prog 6 #[.slice B n c, .agg e.cs.toArray, .int .i64 at0, .int .u8 by0, .int .i64 cut, .slice U un uc] w fun e w' => e = .returned (.bool true) ∧ Up w w' := by
  obtain ⟨k, f, t, id, nn, A, an, ac, l⟩ := e
  obtain ⟨-, -, -, -, -, ha, hac, hacm⟩ := h1
  obtain ⟨hb, hnc, -⟩ := h0
  obtain ⟨hU, huc, -⟩ := h5
  (try dsimp only at ha hac hacm)
  show Calls Try.prog 6 #[.slice B n c, .agg #[.int .i64 k, .int .i64 f, .int .i64 t, .int .u64 (id : Int), .int .u64 (nn : Int), .slice A an ac], .int .i64 at0, .int .u8 by0, .int .i64 cut, .slice U un uc] w _
  obtain ⟨w2, hw2⟩ : ∃ w2, w2 = w.alloc (.cells #[.int .i64 k, .int .i64 f, .int .i64 t, .int .u64 (id : Int), .int .u64 (nn : Int), .slice A an ac] 25) := ⟨_, rfl⟩
  have hup2 : Up w w2 := by rw [hw2]; exact (Up.refl w).alloc _
  have hb2 : w2.heap[w.heap.size]? = some (.cells #[.int .i64 k, .int .i64 f, .int .i64 t, .int .u64 (id : Int), .int .u64 (nn : Int), .slice A an ac] 25 (0, 0)) := by
    rw [hw2]; exact heap_alloc_new w _
  have ha2 := ha.up hup2
  have HW := Lib.hid hw2
  clear hw2 ha
  obtain ⟨m1, hm1⟩ : ∃ x, x = msgB k f t id nn l := ⟨_, rfl⟩
  have HM1 := Lib.hid hm1
  clear hm1
  by_cases c0 : 2000 < n
  · have c0i : (2000 : Int) < (n : Int) := by omega
    go_enter Try.func6, Try.ntmps6
    go_wp2_with fail
    rw [← HW.out]
    clear HW
    refine (awake20_any (w2)).mono ?_
    rintro e w4 ⟨rfl, hu4⟩
    go_wp2_with fail
    go_ret
    exact ⟨rfl, hup2.trans hu4⟩
  have c0i : ¬ (2000 : Int) < (n : Int) := by omega
  by_cases c1 : 60 < an
  · have c1i : (60 : Int) < (an : Int) := by omega
    go_enter Try.func6, Try.ntmps6
    go_wp2_with fail
    rw [← HW.out]
    clear HW
    refine (awake20_any (w2)).mono ?_
    rintro e w4 ⟨rfl, hu4⟩
    go_wp2_with fail
    go_ret
    exact ⟨rfl, hup2.trans hu4⟩
  have c1i : ¬ (60 : Int) < (an : Int) := by omega
  by_cases c2 : 50 < un
  · have c2i : (50 : Int) < (un : Int) := by omega
    go_enter Try.func6, Try.ntmps6
    go_wp2_with fail
    rw [← HW.out]
    clear HW
    refine (awake20_any (w2)).mono ?_
    rintro e w4 ⟨rfl, hu4⟩
    go_wp2_with fail
    go_ret
    exact ⟨rfl, hup2.trans hu4⟩
  have c2i : ¬ (50 : Int) < (un : Int) := by omega
  obtain ⟨C1, hC, hC2⟩ := i64_and_le at0 16777215 (by omega)
  replace hC : bits .and .i64 at0 16777215 = (C1 : Int) := hC
  obtain ⟨D1, hD, hD2⟩ := i64_and_le cut 255 (by omega)
  replace hD : bits .and .i64 cut 255 = (D1 : Int) := hD
  go_enter Try.func6, Try.ntmps6
  go_wp2_with fail
  rw [← HW.out]
  clear HW
  have hgw : w.heap.size ≤ w.heap.size := Nat.le_refl _
  generalize hg : w.heap.size = g1 at hb2 hgw ⊢
  rw [← hg] at hgw
  have hgw : w.heap.size ≤ g1 := by omega
  clear hg
  refine (rmok_any k f t id nn A an ac l w2 ha2 (by omega)).mono ?_
  rintro e w3 ⟨rfl, hu3⟩
  rw [← HM1.out]
  have hb3 := blk_up hu3 hb2
  have hup3 := hup2.trans hu3
  have ha3 := ha2.up hu3
  clear hb2 hup2 ha2 hu3
  cases m1
  · clear HM1 ha3
    have p0 := blk_cell hb3 0
    have p1 := blk_cell hb3 1
    have p2 := blk_cell hb3 2
    have p3 := blk_cell hb3 3
    have p4 := blk_cell hb3 4
    have p5 := blk_cell hb3 5
    have s0 := blk_free hb3 0
    have s1 := blk_free hb3 1
    have s2 := blk_free hb3 2
    have s3 := blk_free hb3 3
    have s4 := blk_free hb3 4
    have s5 := blk_free hb3 5
    have h7 := set6 _ g1 _ _ _ _ _ _ (.int .i64 6) (.int .i64 1) (.int .i64 0) (.int .u64 70) (.int .u64 900) (.slice none 0 0) _ hb3
    have hup4 := keepsUpM hup3 hgw h7.2
    have hb4 := h7.1
    have hm0 : msgB 6 1 0 70 900 [] = true := by decide
    have HM0 := Lib.hid hm0
    have q0 := blk_cell hb4 0
    have q1 := blk_cell hb4 1
    have q2 := blk_cell hb4 2
    have q3 := blk_cell hb4 3
    have q4 := blk_cell hb4 4
    have q5 := blk_cell hb4 5
    clear h7 hm0 hb3 hup3
    go_wp2_with fail
    clear p0 p1 p2 p3 p4 p5
    clear q0 q1 q2 q3 q4 q5
    clear s0 s1 s2 s3 s4 s5
    generalize (((((w3.setCell ⟨g1, 0, none⟩ (.int .i64 6)).setCell ⟨g1, 1, none⟩ (.int .i64 1)).setCell ⟨g1, 2, none⟩ (.int .i64 0)).setCell ⟨g1, 3, none⟩ (.int .u64 70)).setCell ⟨g1, 4, none⟩ (.int .u64 900)).setCell ⟨g1, 5, none⟩ (.slice none 0 0) = w4 at *
    have ha4 : Rd w4 w4.heap.size 5 none 0 (itcs []) := Rd.empty
    refine (rmsg_any 6 1 0 70 900 none 0 0 [] w4 ha4 HM0.out).mono ?_
    rintro e w5 ⟨rfl, hu5⟩
    have hdl := msgD_le (HM0.out)
    have hfl := frameB_len 9 (msgD 6 1 0 70 900 [])
    generalize frameB 9 (msgD 6 1 0 70 900 []) = F1 at *
    generalize (msgD 6 1 0 70 900 []).length = d1 at *
    have hb5 := blk_up hu5 hb4
    have ha5 := ha4.up hu5
    have hup5 := hup4.trans hu5
    have hbB5 := hb.up hup5
    have hU5 := hU.up hup5
    clear hb4 ha4 hup4 hu5 hb hU
    obtain ⟨c6, w6, hconv, hcap, hbeg, hu6⟩ := conv_begc w5 F1
    obtain ⟨m, hmL⟩ : ∃ m, m = F1.length := ⟨_, rfl⟩
    rw [← hmL] at hconv hcap hfl
    have HTN := Lib.hid hmL
    have hge0 := hup5.size
    generalize hge5 : w5.heap.size = g5 at hconv hbeg
    have hg5w : w5.heap.size ≤ g5 := Nat.le_of_eq hge5
    clear hmL hge5
    have hm1 : 1 ≤ m := by omega
    have hm2 : m ≤ 50012 := by omega
    clear hfl hdl
    obtain ⟨I, hI, hIm⟩ : ∃ I : Nat, (C1 : Int) % (m : Int) = (I : Int) ∧ I < m := ⟨C1 % m, by rw [Int.natCast_emod], Nat.mod_lt C1 (by omega)⟩
    have hm0 : ¬ ((m : Int) = 0) := by omega
    have hIi : (I : Int) < (m : Int) := by omega
    obtain ⟨P, hP, hPm⟩ : ∃ P : Nat, (D1 : Int) % ((m : Int) + 1) = (P : Int) ∧ P ≤ m := ⟨D1 % (m + 1), (by rw [Int.natCast_emod]; rfl), by have := Nat.mod_lt D1 (show 0 < m + 1 by omega); omega⟩
    have hP0 : ¬ ((m : Int) + 1 = 0) := by omega
    have hIT : I < F1.length := by rw [← HTN.out]; omega
    obtain ⟨y, hy⟩ := xor_byte ((F1.getD I 0).toNat : Int) by0
    have hc8 : w6.cell? ⟨g5, I, none⟩ = some (.int .u8 ((F1.getD I 0).toNat : Int)) := hbeg.beg.cell hIT
    have hf8 := hbeg.beg.free hIT
    have hbeg2 := hbeg.set hIT y
    have hlen2 : (F1.set I y).length = m := by rw [List.length_set, ← HTN.out]
    have hK8 : Rg.Keeps (fun x => x = g5) w6 (w6.setCell ⟨g5, I, none⟩ (bv y)) := setc_keeps w6 w6 g5 I _ (Rg.Keeps.refl _ _)
    have hu8 : Up w5 (w6.setCell ⟨g5, I, none⟩ (bv y)) := keepsUpM hu6 hg5w hK8
    have hbv : bv y = .int .u8 (y.toNat : Int) := rfl
    rw [hbv] at hbeg2 hu8
    have hUr := hU5.up hu8
    have hkP : m - P ≤ (F1.set I y).length := by omega
    have hkU : m - P + un ≤ 140737488355328 := by omega
    have HLN := Lib.hid hlen2
    have HKP := Lib.hid hkP
    generalize F1.getD I 0 = t0 at *
    generalize F1.set I y = T2 at *
    clear hbeg hK8 hlen2 hkP
    go_wp2_with (first | (at_builtin; refine wpList_append_begc (w0 := w5) (k := m - P) hbeg2 HKP.out hUr hkU hg5w hu8 rfl rfl rfl rfl ?_; intro A9 c9 w9 hrd9 hcap9 hup9))
    clear hc8 hf8 hbeg2 hconv hI hm0 hIi hP hP0 hIT hy hUr hkU HLN HKP HTN hC hD hu6 hu8
    generalize T2.take (m - P) ++ us = T3 at *
    have hD3 : m - P + un ≤ 60000 := by omega
    generalize m - P + un = D3 at *
    go_loopw [0, 15] (fun bv i wr => ∃ (x : Nat) (X : Option Addr) (xn xc : Nat) (xl : List UInt8), i = .int .i64 (x : Int) ∧ bv = .slice X xn xc ∧ x ≤ 2 ∧ xn ≤ 60000 ∧ xn ≤ xc ∧ Rd wr wr.heap.size 1 X xn (bvs xl) ∧ Up w9 wr) (fun _ i _ => 2 - (intOf i).toNat)
    case atStart => exact ⟨0, B, n, c, bs, rfl, rfl, by omega, by omega, hnc, hbB5.up hup9, Up.refl _⟩
    case round =>
      obtain ⟨x, X, xn, xc, xl, rfl, rfl, hx2, hxn, hxc, hrdx, hu7⟩ := hrel
      have hcases : x = 0 ∨ x = 1 ∨ x = 2 := by omega
      rcases hcases with rfl | rfl | rfl
      · have hrx := hrdx
        have HBL := Lib.hid hrx.blen
        have hln := readM_len (xl)
        obtain ⟨RE, rk, rf, rt, rid, rn, rl, hR⟩ : ∃ a b c d e f g, readM (xl) = (a, b, c, d, e, f, g) := ⟨_, _, _, _, _, _, _, rfl⟩
        rw [hR] at hln
        (try dsimp only at hln)
        have HR := Lib.hid hR
        clear hR
        go_wp2_with fail
        refine (mread_any (X) (xn) (xc) (xl) wr hrx (by omega) (by omega)).mono ?_
        rintro e w11 ⟨Q, qn, qc, rfl, hQ, hqc, hu11⟩
        rw [HR.out] at hQ ⊢
        (try dsimp only at hQ ⊢)
        have hqn := hQ.ilen
        have b1 : qn ≤ 1099511627776 := by omega
        clear hqn
        have hu12 : Up w11 (w11.alloc (.cells #[.int .i64 (rk : Int), .int .i64 (rf : Int), .int .i64 (rt : Int), .int .u64 (rid : Int), .int .u64 (rn : Int), .slice Q qn qc] 25)) := (Up.refl w11).alloc _
        have hh12 : (w11.alloc (.cells #[.int .i64 (rk : Int), .int .i64 (rf : Int), .int .i64 (rt : Int), .int .u64 (rid : Int), .int .u64 (rn : Int), .slice Q qn qc] 25)).heap[w11.heap.size]? = some (.cells #[.int .i64 (rk : Int), .int .i64 (rf : Int), .int .i64 (rt : Int), .int .u64 (rid : Int), .int .u64 (rn : Int), .slice Q qn qc] 25 (0, 0)) := heap_alloc_new w11 _
        have hr12 := hrx.up (hu11.trans hu12)
        have hcv : (convert 28 9 (.slice (X) (xn) (xc))).run Try.prog (w11.alloc (.cells #[.int .i64 (rk : Int), .int .i64 (rf : Int), .int .i64 (rt : Int), .int .u64 (rid : Int), .int .u64 (rn : Int), .slice Q qn qc] 25)) = .ok (.string (tx (xl))) _ := run_str (xc) hr12
        have hu112 := hu11.trans hu12
        have hQ12 := hQ.up hu12
        clear hQ hu11 hu12 hr12
        go_wp2_with fail
        clear hcv
        generalize w11.alloc (.cells #[.int .i64 (rk : Int), .int .i64 (rf : Int), .int .i64 (rt : Int), .int .u64 (rid : Int), .int .u64 (rn : Int), .slice Q qn qc] 25) = w12 at *
        generalize w11.heap.size = g12 at *
        refine (mrread_any (xl) w12 (by have := HBL.out; omega)).mono ?_
        rintro e w13 ⟨Q2, qn2, qc2, rfl, hQ2, hqc2, hu13⟩
        rw [HR.out] at hQ2 ⊢
        (try dsimp only at hQ2 ⊢)
        have hqn := hQ2.ilen
        have b2 : qn2 ≤ 1099511627776 := by omega
        clear hqn
        have hu14 : Up w13 (w13.alloc (.cells #[.int .i64 (rk : Int), .int .i64 (rf : Int), .int .i64 (rt : Int), .int .u64 (rid : Int), .int .u64 (rn : Int), .slice Q2 qn2 qc2] 25)) := (Up.refl w13).alloc _
        have hh14 : (w13.alloc (.cells #[.int .i64 (rk : Int), .int .i64 (rf : Int), .int .i64 (rt : Int), .int .u64 (rid : Int), .int .u64 (rn : Int), .slice Q2 qn2 qc2] 25)).heap[w13.heap.size]? = some (.cells #[.int .i64 (rk : Int), .int .i64 (rf : Int), .int .i64 (rt : Int), .int .u64 (rid : Int), .int .u64 (rn : Int), .slice Q2 qn2 qc2] 25 (0, 0)) := heap_alloc_new w13 _
        have hh12b := blk_up (hu13.trans hu14) hh12
        have hQ14 := hQ2.up hu14
        have hQ15 := hQ12.up (hu13.trans hu14)
        have hu214 := hu112.trans (hu13.trans hu14)
        have p0 := blk_cell hh12b 0
        have p1 := blk_cell hh12b 1
        have p2 := blk_cell hh12b 2
        have p3 := blk_cell hh12b 3
        have p4 := blk_cell hh12b 4
        have p5 := blk_cell hh12b 5
        have q0 := blk_cell hh14 0
        have q1 := blk_cell hh14 1
        have q2 := blk_cell hh14 2
        have q3 := blk_cell hh14 3
        have q4 := blk_cell hh14 4
        have q5 := blk_cell hh14 5
        have hsm := same_selfM (rk : Int) (rf : Int) (rt : Int) rid rn rl
        have HSM := Lib.hid hsm
        have hne9 : ((RE : Int) != (RE : Int)) = false := by simp
        clear hsm hh12 hh12b hh14 hQ2 hQ12 hu13 hu14 hu112
        go_wp2_with fail
        refine (rmsame_any (rk : Int) (rf : Int) (rt : Int) rid rn Q qn qc rl (rk : Int) (rf : Int) (rt : Int) rid rn Q2 qn2 qc2 rl _ hQ15 hQ14 b1 b2).mono ?_
        rintro e w16 ⟨rfl, hu16⟩
        rw [HSM.out]
        have hr16 := (hrx.up hu214).up hu16
        have hu716 := hu7.trans (hu214.trans hu16)
        clear p0 p1 p2 p3 p4 p5
        clear q0 q1 q2 q3 q4 q5
        clear hQ14 hQ15 hrx
        go_wp2_with fail
        go_roundw
        case rel => exact ⟨1, X, xn, xc, xl, by go_num, rfl, by omega, by omega, by omega, hr16, hu716⟩
        case measure => simp [intOf]
      · have hrx := hrd9.up hu7
        have HBL := Lib.hid hrx.blen
        have hln := readM_len (T3)
        obtain ⟨RE, rk, rf, rt, rid, rn, rl, hR⟩ : ∃ a b c d e f g, readM (T3) = (a, b, c, d, e, f, g) := ⟨_, _, _, _, _, _, _, rfl⟩
        rw [hR] at hln
        (try dsimp only at hln)
        have HR := Lib.hid hR
        clear hR
        go_wp2_with fail
        refine (mread_any (A9) (D3) (c9) (T3) wr hrx (by omega) (by omega)).mono ?_
        rintro e w11 ⟨Q, qn, qc, rfl, hQ, hqc, hu11⟩
        rw [HR.out] at hQ ⊢
        (try dsimp only at hQ ⊢)
        have hqn := hQ.ilen
        have b1 : qn ≤ 1099511627776 := by omega
        clear hqn
        have hu12 : Up w11 (w11.alloc (.cells #[.int .i64 (rk : Int), .int .i64 (rf : Int), .int .i64 (rt : Int), .int .u64 (rid : Int), .int .u64 (rn : Int), .slice Q qn qc] 25)) := (Up.refl w11).alloc _
        have hh12 : (w11.alloc (.cells #[.int .i64 (rk : Int), .int .i64 (rf : Int), .int .i64 (rt : Int), .int .u64 (rid : Int), .int .u64 (rn : Int), .slice Q qn qc] 25)).heap[w11.heap.size]? = some (.cells #[.int .i64 (rk : Int), .int .i64 (rf : Int), .int .i64 (rt : Int), .int .u64 (rid : Int), .int .u64 (rn : Int), .slice Q qn qc] 25 (0, 0)) := heap_alloc_new w11 _
        have hr12 := hrx.up (hu11.trans hu12)
        have hcv : (convert 28 9 (.slice (A9) (D3) (c9))).run Try.prog (w11.alloc (.cells #[.int .i64 (rk : Int), .int .i64 (rf : Int), .int .i64 (rt : Int), .int .u64 (rid : Int), .int .u64 (rn : Int), .slice Q qn qc] 25)) = .ok (.string (tx (T3))) _ := run_str (c9) hr12
        have hu112 := hu11.trans hu12
        have hQ12 := hQ.up hu12
        clear hQ hu11 hu12 hr12
        go_wp2_with fail
        clear hcv
        generalize w11.alloc (.cells #[.int .i64 (rk : Int), .int .i64 (rf : Int), .int .i64 (rt : Int), .int .u64 (rid : Int), .int .u64 (rn : Int), .slice Q qn qc] 25) = w12 at *
        generalize w11.heap.size = g12 at *
        refine (mrread_any (T3) w12 (by have := HBL.out; omega)).mono ?_
        rintro e w13 ⟨Q2, qn2, qc2, rfl, hQ2, hqc2, hu13⟩
        rw [HR.out] at hQ2 ⊢
        (try dsimp only at hQ2 ⊢)
        have hqn := hQ2.ilen
        have b2 : qn2 ≤ 1099511627776 := by omega
        clear hqn
        have hu14 : Up w13 (w13.alloc (.cells #[.int .i64 (rk : Int), .int .i64 (rf : Int), .int .i64 (rt : Int), .int .u64 (rid : Int), .int .u64 (rn : Int), .slice Q2 qn2 qc2] 25)) := (Up.refl w13).alloc _
        have hh14 : (w13.alloc (.cells #[.int .i64 (rk : Int), .int .i64 (rf : Int), .int .i64 (rt : Int), .int .u64 (rid : Int), .int .u64 (rn : Int), .slice Q2 qn2 qc2] 25)).heap[w13.heap.size]? = some (.cells #[.int .i64 (rk : Int), .int .i64 (rf : Int), .int .i64 (rt : Int), .int .u64 (rid : Int), .int .u64 (rn : Int), .slice Q2 qn2 qc2] 25 (0, 0)) := heap_alloc_new w13 _
        have hh12b := blk_up (hu13.trans hu14) hh12
        have hQ14 := hQ2.up hu14
        have hQ15 := hQ12.up (hu13.trans hu14)
        have hu214 := hu112.trans (hu13.trans hu14)
        have p0 := blk_cell hh12b 0
        have p1 := blk_cell hh12b 1
        have p2 := blk_cell hh12b 2
        have p3 := blk_cell hh12b 3
        have p4 := blk_cell hh12b 4
        have p5 := blk_cell hh12b 5
        have q0 := blk_cell hh14 0
        have q1 := blk_cell hh14 1
        have q2 := blk_cell hh14 2
        have q3 := blk_cell hh14 3
        have q4 := blk_cell hh14 4
        have q5 := blk_cell hh14 5
        have hsm := same_selfM (rk : Int) (rf : Int) (rt : Int) rid rn rl
        have HSM := Lib.hid hsm
        have hne9 : ((RE : Int) != (RE : Int)) = false := by simp
        clear hsm hh12 hh12b hh14 hQ2 hQ12 hu13 hu14 hu112
        go_wp2_with fail
        refine (rmsame_any (rk : Int) (rf : Int) (rt : Int) rid rn Q qn qc rl (rk : Int) (rf : Int) (rt : Int) rid rn Q2 qn2 qc2 rl _ hQ15 hQ14 b1 b2).mono ?_
        rintro e w16 ⟨rfl, hu16⟩
        rw [HSM.out]
        have hr16 := (hrx.up hu214).up hu16
        have hu716 := hu7.trans (hu214.trans hu16)
        clear p0 p1 p2 p3 p4 p5
        clear q0 q1 q2 q3 q4 q5
        clear hQ14 hQ15 hrx
        go_wp2_with fail
        go_roundw
        case rel => exact ⟨2, A9, D3, c9, T3, by go_num, rfl, by omega, by omega, by omega, hr16, hu716⟩
        case measure => simp [intOf]
      · have hb9 := blk_up (hup9.trans hu7) hb5
        have ha9 := ha5.up (hup9.trans hu7)
        have hupz := (hup5.trans hup9).trans hu7
        have p0 := blk_cell hb9 0
        have p1 := blk_cell hb9 1
        have p2 := blk_cell hb9 2
        have p3 := blk_cell hb9 3
        have p4 := blk_cell hb9 4
        have p5 := blk_cell hb9 5
        go_wp2_with fail
        clear p0 p1 p2 p3 p4 p5
        refine (mok_any 6 1 0 70 900 none 0 0 [] wr ha9 (by omega)).mono ?_
        rintro e w4 ⟨rfl, hu4⟩
        rw [HM0.out]
        go_wp2_with fail
        refine (awake20_any w4).mono ?_
        rintro e w10 ⟨rfl, hu10⟩
        go_wp2_with fail
        go_ret
        exact ⟨rfl, (hupz.trans hu4).trans hu10⟩
  · have hm1 : msgB k f t id nn l = true := HM1.out.symm
    have HM0 := Lib.hid hm1
    clear hm1 HM1
    have p0 := blk_cell hb3 0
    have p1 := blk_cell hb3 1
    have p2 := blk_cell hb3 2
    have p3 := blk_cell hb3 3
    have p4 := blk_cell hb3 4
    have p5 := blk_cell hb3 5
    go_wp2_with fail
    clear p0 p1 p2 p3 p4 p5
    refine (rmsg_any k f t id nn A an ac l w3 ha3 HM0.out).mono ?_
    rintro e w5 ⟨rfl, hu5⟩
    have hdl := msgD_le (HM0.out)
    have hfl := frameB_len 9 (msgD k f t id nn l)
    generalize frameB 9 (msgD k f t id nn l) = F1 at *
    generalize (msgD k f t id nn l).length = d1 at *
    have hb5 := blk_up hu5 hb3
    have ha5 := ha3.up hu5
    have hup5 := hup3.trans hu5
    have hbB5 := hb.up hup5
    have hU5 := hU.up hup5
    clear hb3 ha3 hup3 hu5 hb hU
    obtain ⟨c6, w6, hconv, hcap, hbeg, hu6⟩ := conv_begc w5 F1
    obtain ⟨m, hmL⟩ : ∃ m, m = F1.length := ⟨_, rfl⟩
    rw [← hmL] at hconv hcap hfl
    have HTN := Lib.hid hmL
    have hge0 := hup5.size
    generalize hge5 : w5.heap.size = g5 at hconv hbeg
    have hg5w : w5.heap.size ≤ g5 := Nat.le_of_eq hge5
    clear hmL hge5
    have hm1 : 1 ≤ m := by omega
    have hm2 : m ≤ 50012 := by omega
    clear hfl hdl
    obtain ⟨I, hI, hIm⟩ : ∃ I : Nat, (C1 : Int) % (m : Int) = (I : Int) ∧ I < m := ⟨C1 % m, by rw [Int.natCast_emod], Nat.mod_lt C1 (by omega)⟩
    have hm0 : ¬ ((m : Int) = 0) := by omega
    have hIi : (I : Int) < (m : Int) := by omega
    obtain ⟨P, hP, hPm⟩ : ∃ P : Nat, (D1 : Int) % ((m : Int) + 1) = (P : Int) ∧ P ≤ m := ⟨D1 % (m + 1), (by rw [Int.natCast_emod]; rfl), by have := Nat.mod_lt D1 (show 0 < m + 1 by omega); omega⟩
    have hP0 : ¬ ((m : Int) + 1 = 0) := by omega
    have hIT : I < F1.length := by rw [← HTN.out]; omega
    obtain ⟨y, hy⟩ := xor_byte ((F1.getD I 0).toNat : Int) by0
    have hc8 : w6.cell? ⟨g5, I, none⟩ = some (.int .u8 ((F1.getD I 0).toNat : Int)) := hbeg.beg.cell hIT
    have hf8 := hbeg.beg.free hIT
    have hbeg2 := hbeg.set hIT y
    have hlen2 : (F1.set I y).length = m := by rw [List.length_set, ← HTN.out]
    have hK8 : Rg.Keeps (fun x => x = g5) w6 (w6.setCell ⟨g5, I, none⟩ (bv y)) := setc_keeps w6 w6 g5 I _ (Rg.Keeps.refl _ _)
    have hu8 : Up w5 (w6.setCell ⟨g5, I, none⟩ (bv y)) := keepsUpM hu6 hg5w hK8
    have hbv : bv y = .int .u8 (y.toNat : Int) := rfl
    rw [hbv] at hbeg2 hu8
    have hUr := hU5.up hu8
    have hkP : m - P ≤ (F1.set I y).length := by omega
    have hkU : m - P + un ≤ 140737488355328 := by omega
    have HLN := Lib.hid hlen2
    have HKP := Lib.hid hkP
    generalize F1.getD I 0 = t0 at *
    generalize F1.set I y = T2 at *
    clear hbeg hK8 hlen2 hkP
    go_wp2_with (first | (at_builtin; refine wpList_append_begc (w0 := w5) (k := m - P) hbeg2 HKP.out hUr hkU hg5w hu8 rfl rfl rfl rfl ?_; intro A9 c9 w9 hrd9 hcap9 hup9))
    clear hc8 hf8 hbeg2 hconv hI hm0 hIi hP hP0 hIT hy hUr hkU HLN HKP HTN hC hD hu6 hu8
    generalize T2.take (m - P) ++ us = T3 at *
    have hD3 : m - P + un ≤ 60000 := by omega
    generalize m - P + un = D3 at *
    go_loopw [0, 15] (fun bv i wr => ∃ (x : Nat) (X : Option Addr) (xn xc : Nat) (xl : List UInt8), i = .int .i64 (x : Int) ∧ bv = .slice X xn xc ∧ x ≤ 2 ∧ xn ≤ 60000 ∧ xn ≤ xc ∧ Rd wr wr.heap.size 1 X xn (bvs xl) ∧ Up w9 wr) (fun _ i _ => 2 - (intOf i).toNat)
    case atStart => exact ⟨0, B, n, c, bs, rfl, rfl, by omega, by omega, hnc, hbB5.up hup9, Up.refl _⟩
    case round =>
      obtain ⟨x, X, xn, xc, xl, rfl, rfl, hx2, hxn, hxc, hrdx, hu7⟩ := hrel
      have hcases : x = 0 ∨ x = 1 ∨ x = 2 := by omega
      rcases hcases with rfl | rfl | rfl
      · have hrx := hrdx
        have HBL := Lib.hid hrx.blen
        have hln := readM_len (xl)
        obtain ⟨RE, rk, rf, rt, rid, rn, rl, hR⟩ : ∃ a b c d e f g, readM (xl) = (a, b, c, d, e, f, g) := ⟨_, _, _, _, _, _, _, rfl⟩
        rw [hR] at hln
        (try dsimp only at hln)
        have HR := Lib.hid hR
        clear hR
        go_wp2_with fail
        refine (mread_any (X) (xn) (xc) (xl) wr hrx (by omega) (by omega)).mono ?_
        rintro e w11 ⟨Q, qn, qc, rfl, hQ, hqc, hu11⟩
        rw [HR.out] at hQ ⊢
        (try dsimp only at hQ ⊢)
        have hqn := hQ.ilen
        have b1 : qn ≤ 1099511627776 := by omega
        clear hqn
        have hu12 : Up w11 (w11.alloc (.cells #[.int .i64 (rk : Int), .int .i64 (rf : Int), .int .i64 (rt : Int), .int .u64 (rid : Int), .int .u64 (rn : Int), .slice Q qn qc] 25)) := (Up.refl w11).alloc _
        have hh12 : (w11.alloc (.cells #[.int .i64 (rk : Int), .int .i64 (rf : Int), .int .i64 (rt : Int), .int .u64 (rid : Int), .int .u64 (rn : Int), .slice Q qn qc] 25)).heap[w11.heap.size]? = some (.cells #[.int .i64 (rk : Int), .int .i64 (rf : Int), .int .i64 (rt : Int), .int .u64 (rid : Int), .int .u64 (rn : Int), .slice Q qn qc] 25 (0, 0)) := heap_alloc_new w11 _
        have hr12 := hrx.up (hu11.trans hu12)
        have hcv : (convert 28 9 (.slice (X) (xn) (xc))).run Try.prog (w11.alloc (.cells #[.int .i64 (rk : Int), .int .i64 (rf : Int), .int .i64 (rt : Int), .int .u64 (rid : Int), .int .u64 (rn : Int), .slice Q qn qc] 25)) = .ok (.string (tx (xl))) _ := run_str (xc) hr12
        have hu112 := hu11.trans hu12
        have hQ12 := hQ.up hu12
        clear hQ hu11 hu12 hr12
        go_wp2_with fail
        clear hcv
        generalize w11.alloc (.cells #[.int .i64 (rk : Int), .int .i64 (rf : Int), .int .i64 (rt : Int), .int .u64 (rid : Int), .int .u64 (rn : Int), .slice Q qn qc] 25) = w12 at *
        generalize w11.heap.size = g12 at *
        refine (mrread_any (xl) w12 (by have := HBL.out; omega)).mono ?_
        rintro e w13 ⟨Q2, qn2, qc2, rfl, hQ2, hqc2, hu13⟩
        rw [HR.out] at hQ2 ⊢
        (try dsimp only at hQ2 ⊢)
        have hqn := hQ2.ilen
        have b2 : qn2 ≤ 1099511627776 := by omega
        clear hqn
        have hu14 : Up w13 (w13.alloc (.cells #[.int .i64 (rk : Int), .int .i64 (rf : Int), .int .i64 (rt : Int), .int .u64 (rid : Int), .int .u64 (rn : Int), .slice Q2 qn2 qc2] 25)) := (Up.refl w13).alloc _
        have hh14 : (w13.alloc (.cells #[.int .i64 (rk : Int), .int .i64 (rf : Int), .int .i64 (rt : Int), .int .u64 (rid : Int), .int .u64 (rn : Int), .slice Q2 qn2 qc2] 25)).heap[w13.heap.size]? = some (.cells #[.int .i64 (rk : Int), .int .i64 (rf : Int), .int .i64 (rt : Int), .int .u64 (rid : Int), .int .u64 (rn : Int), .slice Q2 qn2 qc2] 25 (0, 0)) := heap_alloc_new w13 _
        have hh12b := blk_up (hu13.trans hu14) hh12
        have hQ14 := hQ2.up hu14
        have hQ15 := hQ12.up (hu13.trans hu14)
        have hu214 := hu112.trans (hu13.trans hu14)
        have p0 := blk_cell hh12b 0
        have p1 := blk_cell hh12b 1
        have p2 := blk_cell hh12b 2
        have p3 := blk_cell hh12b 3
        have p4 := blk_cell hh12b 4
        have p5 := blk_cell hh12b 5
        have q0 := blk_cell hh14 0
        have q1 := blk_cell hh14 1
        have q2 := blk_cell hh14 2
        have q3 := blk_cell hh14 3
        have q4 := blk_cell hh14 4
        have q5 := blk_cell hh14 5
        have hsm := same_selfM (rk : Int) (rf : Int) (rt : Int) rid rn rl
        have HSM := Lib.hid hsm
        have hne9 : ((RE : Int) != (RE : Int)) = false := by simp
        clear hsm hh12 hh12b hh14 hQ2 hQ12 hu13 hu14 hu112
        go_wp2_with fail
        refine (rmsame_any (rk : Int) (rf : Int) (rt : Int) rid rn Q qn qc rl (rk : Int) (rf : Int) (rt : Int) rid rn Q2 qn2 qc2 rl _ hQ15 hQ14 b1 b2).mono ?_
        rintro e w16 ⟨rfl, hu16⟩
        rw [HSM.out]
        have hr16 := (hrx.up hu214).up hu16
        have hu716 := hu7.trans (hu214.trans hu16)
        clear p0 p1 p2 p3 p4 p5
        clear q0 q1 q2 q3 q4 q5
        clear hQ14 hQ15 hrx
        go_wp2_with fail
        go_roundw
        case rel => exact ⟨1, X, xn, xc, xl, by go_num, rfl, by omega, by omega, by omega, hr16, hu716⟩
        case measure => simp [intOf]
      · have hrx := hrd9.up hu7
        have HBL := Lib.hid hrx.blen
        have hln := readM_len (T3)
        obtain ⟨RE, rk, rf, rt, rid, rn, rl, hR⟩ : ∃ a b c d e f g, readM (T3) = (a, b, c, d, e, f, g) := ⟨_, _, _, _, _, _, _, rfl⟩
        rw [hR] at hln
        (try dsimp only at hln)
        have HR := Lib.hid hR
        clear hR
        go_wp2_with fail
        refine (mread_any (A9) (D3) (c9) (T3) wr hrx (by omega) (by omega)).mono ?_
        rintro e w11 ⟨Q, qn, qc, rfl, hQ, hqc, hu11⟩
        rw [HR.out] at hQ ⊢
        (try dsimp only at hQ ⊢)
        have hqn := hQ.ilen
        have b1 : qn ≤ 1099511627776 := by omega
        clear hqn
        have hu12 : Up w11 (w11.alloc (.cells #[.int .i64 (rk : Int), .int .i64 (rf : Int), .int .i64 (rt : Int), .int .u64 (rid : Int), .int .u64 (rn : Int), .slice Q qn qc] 25)) := (Up.refl w11).alloc _
        have hh12 : (w11.alloc (.cells #[.int .i64 (rk : Int), .int .i64 (rf : Int), .int .i64 (rt : Int), .int .u64 (rid : Int), .int .u64 (rn : Int), .slice Q qn qc] 25)).heap[w11.heap.size]? = some (.cells #[.int .i64 (rk : Int), .int .i64 (rf : Int), .int .i64 (rt : Int), .int .u64 (rid : Int), .int .u64 (rn : Int), .slice Q qn qc] 25 (0, 0)) := heap_alloc_new w11 _
        have hr12 := hrx.up (hu11.trans hu12)
        have hcv : (convert 28 9 (.slice (A9) (D3) (c9))).run Try.prog (w11.alloc (.cells #[.int .i64 (rk : Int), .int .i64 (rf : Int), .int .i64 (rt : Int), .int .u64 (rid : Int), .int .u64 (rn : Int), .slice Q qn qc] 25)) = .ok (.string (tx (T3))) _ := run_str (c9) hr12
        have hu112 := hu11.trans hu12
        have hQ12 := hQ.up hu12
        clear hQ hu11 hu12 hr12
        go_wp2_with fail
        clear hcv
        generalize w11.alloc (.cells #[.int .i64 (rk : Int), .int .i64 (rf : Int), .int .i64 (rt : Int), .int .u64 (rid : Int), .int .u64 (rn : Int), .slice Q qn qc] 25) = w12 at *
        generalize w11.heap.size = g12 at *
        refine (mrread_any (T3) w12 (by have := HBL.out; omega)).mono ?_
        rintro e w13 ⟨Q2, qn2, qc2, rfl, hQ2, hqc2, hu13⟩
        rw [HR.out] at hQ2 ⊢
        (try dsimp only at hQ2 ⊢)
        have hqn := hQ2.ilen
        have b2 : qn2 ≤ 1099511627776 := by omega
        clear hqn
        have hu14 : Up w13 (w13.alloc (.cells #[.int .i64 (rk : Int), .int .i64 (rf : Int), .int .i64 (rt : Int), .int .u64 (rid : Int), .int .u64 (rn : Int), .slice Q2 qn2 qc2] 25)) := (Up.refl w13).alloc _
        have hh14 : (w13.alloc (.cells #[.int .i64 (rk : Int), .int .i64 (rf : Int), .int .i64 (rt : Int), .int .u64 (rid : Int), .int .u64 (rn : Int), .slice Q2 qn2 qc2] 25)).heap[w13.heap.size]? = some (.cells #[.int .i64 (rk : Int), .int .i64 (rf : Int), .int .i64 (rt : Int), .int .u64 (rid : Int), .int .u64 (rn : Int), .slice Q2 qn2 qc2] 25 (0, 0)) := heap_alloc_new w13 _
        have hh12b := blk_up (hu13.trans hu14) hh12
        have hQ14 := hQ2.up hu14
        have hQ15 := hQ12.up (hu13.trans hu14)
        have hu214 := hu112.trans (hu13.trans hu14)
        have p0 := blk_cell hh12b 0
        have p1 := blk_cell hh12b 1
        have p2 := blk_cell hh12b 2
        have p3 := blk_cell hh12b 3
        have p4 := blk_cell hh12b 4
        have p5 := blk_cell hh12b 5
        have q0 := blk_cell hh14 0
        have q1 := blk_cell hh14 1
        have q2 := blk_cell hh14 2
        have q3 := blk_cell hh14 3
        have q4 := blk_cell hh14 4
        have q5 := blk_cell hh14 5
        have hsm := same_selfM (rk : Int) (rf : Int) (rt : Int) rid rn rl
        have HSM := Lib.hid hsm
        have hne9 : ((RE : Int) != (RE : Int)) = false := by simp
        clear hsm hh12 hh12b hh14 hQ2 hQ12 hu13 hu14 hu112
        go_wp2_with fail
        refine (rmsame_any (rk : Int) (rf : Int) (rt : Int) rid rn Q qn qc rl (rk : Int) (rf : Int) (rt : Int) rid rn Q2 qn2 qc2 rl _ hQ15 hQ14 b1 b2).mono ?_
        rintro e w16 ⟨rfl, hu16⟩
        rw [HSM.out]
        have hr16 := (hrx.up hu214).up hu16
        have hu716 := hu7.trans (hu214.trans hu16)
        clear p0 p1 p2 p3 p4 p5
        clear q0 q1 q2 q3 q4 q5
        clear hQ14 hQ15 hrx
        go_wp2_with fail
        go_roundw
        case rel => exact ⟨2, A9, D3, c9, T3, by go_num, rfl, by omega, by omega, by omega, hr16, hu716⟩
        case measure => simp [intOf]
      · have hb9 := blk_up (hup9.trans hu7) hb5
        have ha9 := ha5.up (hup9.trans hu7)
        have hupz := (hup5.trans hup9).trans hu7
        have p0 := blk_cell hb9 0
        have p1 := blk_cell hb9 1
        have p2 := blk_cell hb9 2
        have p3 := blk_cell hb9 3
        have p4 := blk_cell hb9 4
        have p5 := blk_cell hb9 5
        go_wp2_with fail
        clear p0 p1 p2 p3 p4 p5
        refine (mok_any k f t id nn A an ac l wr ha9 (by omega)).mono ?_
        rintro e w4 ⟨rfl, hu4⟩
        rw [HM0.out]
        go_wp2_with fail
        refine (awake20_any w4).mono ?_
        rintro e w10 ⟨rfl, hu10⟩
        go_wp2_with fail
        go_ret
        exact ⟨rfl, (hupz.trans hu4).trans hu10⟩
end Go.Proofs.Ytnbdijifhimogaa.msgHostile
