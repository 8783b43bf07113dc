/-
  The law EditReads: the walk.
-/
import Derived.Test.YtokcaoaclheiiaaEditW14
import Derived.Test.YtokcaoaclheiiaaEditW11
import Derived.Test.YtokcaoaclheiiaaEditLaw3
import Derived.Test.YtokcaoaclheiiaaEditW6
import Derived.Test.YtokcaoaclheiiaaEditReg
import Derived.Test.YtokcaoaclheiiaaFrameW12
import Derived.Test.YtokcaoaclheiiaaOpenEd
import Derived.Test.YtokcaoaclheiiaaOpen
import Derived.Test.YtokcaoaclheiiaaConv
namespace Go.Proofs.Ytokcaoaclheiiaa.editReads
open Go.RowKit
set_option linter.unusedVariables false
set_option linter.unusedSimpArgs false

theorem keeps_fresh {w wq w2 : World} {gx : Nat} (hu : Up w wq) (hg : w.heap.size ≤ gx) (hK : Rg.Keeps (fun g => g = gx) wq w2) : Up w w2 :=
  ⟨hK.os.trans hu.os, hK.tape.trans hu.tape, hK.output.trans hu.output, Nat.le_trans hu.size hK.size, fun k hk => (hK.block k (Nat.lt_of_lt_of_le hk hu.size) (by show ¬ k = gx; omega)).trans (hu.block k hk)⟩
theorem xor_byte (x y : Int) : ∃ z : UInt8, bits .xor .u8 x y = (z.toNat : Int) := by
  have h : ∃ q : Int, bits .xor .u8 x y = IntKind.u8.wrap q := ⟨_, rfl⟩
  obtain ⟨q, hq⟩ := h
  refine ⟨UInt8.ofNat (q % 256).toNat, ?_⟩
  rw [hq, IntKind.wrap_u8]
  have h0 : 0 ≤ q % 256 := by omega
  have h1 : q % 256 < 256 := by omega
  simp
  omega
def etOf : Option ET → ET
  | none => ([], [], 0, 0, 0, 0, 0)
  | some x => x
def erN : Option ET → Nat
  | none => 3
  | some _ => 0
theorem erN_le (r : Option ET) : erN r ≤ 3 := by cases r <;> simp [erN]
theorem post_one {r : Option ET} {w : World} {e : Ending} {w' : World} (h : RdPost r w e w') : ∃ D dn dc A an ac, e = .returned (.tuple #[.agg #[.slice D dn dc, .slice A an ac, .int .i64 (etOf r).2.2.1, .int .u64 ((etOf r).2.2.2.1 : Int), .int .u64 ((etOf r).2.2.2.2.1 : Int), .int .u64 ((etOf r).2.2.2.2.2.1 : Int), .int .u64 ((etOf r).2.2.2.2.2.2 : Int)], .int .i64 (erN r : Int)]) ∧
    Rd w' w'.heap.size 1 D dn (nmv (etOf r).1) ∧ Rd w' w'.heap.size 2 A an (fvs (etOf r).2.1) ∧ Up w w' := by
  cases r with
  | none =>
    obtain ⟨rfl, hu⟩ := h
    exact ⟨none, 0, 0, none, 0, 0, rfl, Rd.empty, Rd.empty, hu⟩
  | some x =>
    obtain ⟨D, dn, dc, A, an, ac, rfl, h1, -, h2, -, hu⟩ := h
    exact ⟨D, dn, dc, A, an, ac, rfl, h1, h2, hu⟩
theorem readE_len (bs : List UInt8) : (etOf (readE bs)).1.length ≤ 40 ∧ (etOf (readE bs)).2.1.length ≤ 40 := by
  unfold readE
  simp only []
  split
  · rename_i h
    have hm := h.2.2.2
    simp only [mayE, Bool.and_eq_true, decide_eq_true_eq] at hm
    exact ⟨hm.1, hm.2.1⟩
  · exact ⟨Nat.zero_le _, Nat.zero_le _⟩
theorem editB_pos (ds : List Int) (add : List Fl) (lg : Int) (f ce at_ le : Nat) : 1 ≤ (editB ds add lg f ce at_ le).length := by
  have h := numB_pos (dq ds).length
  unfold editB listB
  simp only [List.length_append]
  omega
theorem filesB_le : ∀ (l : List Fl), (∀ x ∈ l, fileOk x = true) → (filesB l).length ≤ 20 * l.length
  | [], _ => by simp [filesB]
  | x :: l, h => by
    have hx := fileOk_b (h x List.mem_cons_self)
    have h1 := numB_ten (n := x.1.toNat) (by omega)
    have h2 := numB_ten (n := x.2.toNat) (by omega)
    have h3 := filesB_le l fun y hy => h y (List.mem_cons_of_mem _ hy)
    simp only [filesB, List.flatMap_cons, List.length_append, List.length_cons] at *
    omega
theorem editB_le {ds : List Int} {add : List Fl} {lg : Int} {f ce at_ le : Nat} (hm : mayE ds add lg f ce at_ le = true) : (editB ds add lg f ce at_ le).length ≤ 2000 := by
  simp only [mayE, Bool.and_eq_true, decide_eq_true_eq, List.all_cons, List.all_nil, verOk, Bool.and_true] at hm
  obtain ⟨m1, m2, m3, m4, ⟨m5a, m5b, m5c, m5d⟩, m6, m7⟩ := hm
  have h1 := listB_len (dq ds) (by rw [dq_len]; omega)
  rw [dq_len] at h1
  have h2 := filesB_le add (List.all_eq_true.1 m7)
  have h3 := numB_ten (n := add.length) (by omega)
  have h4 := numsL_len [lg.toNat, f, ce, at_, le] (by intro x hx; simp only [List.mem_cons, List.not_mem_nil, or_false] at hx; omega)
  simp only [List.length_cons, List.length_nil] at h4
  unfold editB
  simp only [List.length_append]
  omega
set_option maxRecDepth 100000 in
set_option maxHeartbeats 16000000 in
theorem law_any (B : Option Addr) (n c : Nat) (bs : List UInt8) (e : EdV) (at0 by0 cut : Int) (w : World) (h0 : IsB w B n c bs) (h1 : IsEd w e) (b2 : -9223372036854775808 ≤ at0 ∧ at0 ≤ 9223372036854775807)
    (b3 : 0 ≤ by0 ∧ by0 ≤ 255) (b4 : -9223372036854775808 ≤ cut ∧ cut ≤ 9223372036854775807) :
    Calls Try.prog 5 #[.slice B n c, .agg e.cs.toArray, .int .i64 at0, .int .u8 by0, .int .i64 cut] w fun e w' => e = .returned (.bool true) ∧ Up w w' := by
  obtain ⟨D, dn, dc, ds, A, an, ac, add, lg, f, ce, at_, le⟩ := e
  obtain ⟨rd, dc1, dc2, ra, ac1, ac2, zl, z1, z2, z3, z4⟩ := h1
  obtain ⟨hb, hnc, -⟩ := h0
  (try dsimp only at rd dc1 dc2 ra ac1 ac2 zl z1 z2 z3 z4)
  show Calls Try.prog 5 #[.slice B n c, .agg #[.slice D dn dc, .slice A an ac, .int .i64 lg, .int .u64 (f : Int), .int .u64 (ce : Int), .int .u64 (at_ : Int), .int .u64 (le : Int)], .int .i64 at0, .int .u8 by0, .int .i64 cut] w _
  obtain ⟨w1, hw1⟩ : ∃ w1, w1 = w.alloc (.cells #[.slice D dn dc, .slice A an ac, .int .i64 lg, .int .u64 (f : Int), .int .u64 (ce : Int), .int .u64 (at_ : Int), .int .u64 (le : Int)] 32) := ⟨_, rfl⟩
  have hup1 : Up w w1 := by rw [hw1]; exact (Up.refl w).alloc _
  have hb1 : w1.heap[w.heap.size]? = some (.cells #[.slice D dn dc, .slice A an ac, .int .i64 lg, .int .u64 (f : Int), .int .u64 (ce : Int), .int .u64 (at_ : Int), .int .u64 (le : Int)] 32 (0, 0)) := by rw [hw1]; exact heap_alloc_new w _
  have HW := Lib.hid hw1
  clear hw1
  have rd1 := rd.up hup1
  have ra1 := ra.up hup1
  clear rd ra
  obtain ⟨mm, hmm⟩ : ∃ x, x = mayE ds add lg f ce at_ le := ⟨_, rfl⟩
  have HM := Lib.hid hmm
  clear hmm
  by_cases g0 : 2000 < n
  · have g0i : (2000 : Int) < (n : Int) := by omega
    go_enter Try.func5, Try.ntmps5
    go_wp2_with fail
    rw [← HW.out]
    go_wp2_with (go_at_call 11; with_reducible refine (awake15_any _).mono ?_; rintro e w4 ⟨rfl, hu4⟩)
    go_ret
    exact ⟨rfl, hup1.trans hu4⟩
  have g0i : ¬ (2000 : Int) < (n : Int) := by omega
  obtain ⟨C1, hC, hC2⟩ := i64_and_le at0 65535 (by omega)
  replace hC : bits .and .i64 at0 65535 = (C1 : Int) := hC
  obtain ⟨D1, hD, hD2⟩ := i64_and_le cut 255 (by omega)
  replace hD : bits .and .i64 cut 255 = (D1 : Int) := hD
  have q0 := blk_cell hb1 0
  have q1 := blk_cell hb1 1
  have q2 := blk_cell hb1 2
  have q3 := blk_cell hb1 3
  have q4 := blk_cell hb1 4
  have q5 := blk_cell hb1 5
  have q6 := blk_cell hb1 6
  go_enter Try.func5, Try.ntmps5
  go_wp2_with fail
  rw [← HW.out]
  clear HW
  have hgw : w.heap.size ≤ w.heap.size := Nat.le_refl _
  generalize hg : w.heap.size = g at hb1 q0 q1 q2 q3 q4 q5 q6 hgw ⊢
  rw [← hg] at hgw
  have hgw : w.heap.size ≤ g := by omega
  clear hg
  go_wp2_with fail
  refine (few_any D dn dc A an ac lg f ce at_ le w1).mono ?_
  rintro e w2 ⟨rfl, hu2⟩
  have hb2 := (hu2.block _ (Array.getElem?_eq_some_iff.1 hb1).1).trans hb1
  have rd2 := rd1.up hu2
  have ra2 := ra1.up hu2
  have hup2 := hup1.trans hu2
  clear q0 q1 q2 q3 q4 q5 q6 hb1 rd1 ra1 hup1 hu2
  by_cases hf : dn ≤ 60 ∧ an ≤ 60
  · have hfd : decide (dn ≤ 60 ∧ an ≤ 60) = true := by simp [hf]
    rw [hfd]
    obtain ⟨hf1, hf2⟩ := hf
    clear hfd
    have q0 := blk_cell hb2 0
    have q1 := blk_cell hb2 1
    have q2 := blk_cell hb2 2
    have q3 := blk_cell hb2 3
    have q4 := blk_cell hb2 4
    have q5 := blk_cell hb2 5
    have q6 := blk_cell hb2 6
    go_wp2_with fail
    refine (rmay_any D dn dc ds A an ac add lg f ce at_ le w2 rd2 (by omega) ra2 (by omega)).mono ?_
    rintro e w3 ⟨rfl, hu3⟩
    rw [← HM.out]
    have hb3 := (hu3.block _ (Array.getElem?_eq_some_iff.1 hb2).1).trans hb2
    have rd3 := rd2.up hu3
    have ra3 := ra2.up hu3
    have hup3 := hup2.trans hu3
    clear q0 q1 q2 q3 q4 q5 q6 hb2 rd2 ra2 hup2 hu3
    cases mm
    · have hm1 : ((mayN false : Nat) : Int) = 1 := rfl
      have r0 := blk_free hb3 0
      clear rd3 ra3 HM
      have t0 := blk_cell hb3 0
      have t1 := blk_cell hb3 1
      have t2 := blk_cell hb3 2
      have t3 := blk_cell hb3 3
      have t4 := blk_cell hb3 4
      have t5 := blk_cell hb3 5
      have t6 := blk_cell hb3 6
      have s1 := blk_free hb3 1
      have s2 := blk_free hb3 2
      have s3 := blk_free hb3 3
      have s4 := blk_free hb3 4
      have s5 := blk_free hb3 5
      have s6 := blk_free hb3 6
      have hb4 := ((((Up.refl w3).alloc (.cells #[.int .i64 1, .int .i64 300] 41)).alloc (.cells #[.int .i64 7] 3)).block _ (Array.getElem?_eq_some_iff.1 hb3).1).trans hb3
      have T0 := blk_cell hb4 0
      have S0 := blk_free hb4 0
      have T1 := blk_cell hb4 1
      have S1 := blk_free hb4 1
      have T2 := blk_cell hb4 2
      have S2 := blk_free hb4 2
      have T3 := blk_cell hb4 3
      have S3 := blk_free hb4 3
      have T4 := blk_cell hb4 4
      have S4 := blk_free hb4 4
      have T5 := blk_cell hb4 5
      have S5 := blk_free hb4 5
      have T6 := blk_cell hb4 6
      have S6 := blk_free hb4 6
      go_wp2_with fail
      have h7 := set7 ((w3.alloc (.cells #[.int .i64 1, .int .i64 300] 41)).alloc (.cells #[.int .i64 7] 3)) g _ _ _ _ _ _ _ (.slice (some ⟨w3.heap.size + 1, 0, none⟩) 1 1) (.slice (some ⟨w3.heap.size, 0, none⟩) 1 1) (.int .i64 5) (.int .u64 0) (.int .u64 0) (.int .u64 0) (.int .u64 900) _ hb4
      have hu4 := keepsUp (((hup3.alloc (.cells #[.int .i64 1, .int .i64 300] 41))).alloc (.cells #[.int .i64 7] 3)) hgw h7.2
      have hgl := (Array.getElem?_eq_some_iff.1 hb3).1
      have hf4 := (Rd.made w3 #[.int .i64 1, .int .i64 300] 41 (sz := 2) (n := 1) rfl).up ((Up.refl _).alloc (.cells #[.int .i64 7] 3))
      have hd4 := Rd.made (w3.alloc (.cells #[.int .i64 1, .int .i64 300] 41)) #[.int .i64 7] 3 (sz := 1) (n := 1) rfl
      rw [World.size_alloc w3] at hd4
      have hf5 := Rd.keepsNe hf4 (Nat.le_refl _) (by rintro a ha; injection ha with ha; rw [← ha]; show w3.heap.size ≠ g; omega) h7.2
      have hd5 := Rd.keepsNe hd4 (Nat.le_refl _) (by rintro a ha; injection ha with ha; rw [← ha]; show w3.heap.size + 1 ≠ g; omega) h7.2
      clear h7 hf4 hd4 hb4 hb3 hup3 T0 T1 T2 T3 T4 T5 T6 S0 S1 S2 S3 S4 S5 S6 t0 t1 t2 t3 t4 t5 t6 s1 s2 s3 s4 s5 s6 r0
      generalize (((((((((w3.alloc (.cells #[.int .i64 1, .int .i64 300] 41)).alloc (.cells #[.int .i64 7] 3)).setCell ⟨g, 0, none⟩ (.slice (some ⟨w3.heap.size + 1, 0, none⟩) 1 1)).setCell ⟨g, 1, none⟩ (.slice (some ⟨w3.heap.size, 0, none⟩) 1 1)).setCell ⟨g, 2, none⟩ (.int .i64 5)).setCell ⟨g, 3, none⟩ (.int .u64 0)).setCell ⟨g, 4, none⟩ (.int .u64 0)).setCell ⟨g, 5, none⟩ (.int .u64 0)).setCell ⟨g, 6, none⟩ (.int .u64 900)) = w4 at *
      have hmE : mayE [7] [((1 : Int), (300 : Int))] 5 0 0 0 900 = true := by decide
      refine (redit_any (some ⟨w3.heap.size + 1, 0, none⟩) 1 1 [7] (some ⟨w3.heap.size, 0, none⟩) 1 1 [((1 : Int), (300 : Int))] 5 0 0 0 900 w4 hd5 (by omega) hf5 (by omega) (hmE)).mono ?_
      rintro e w5 ⟨rfl, hu5⟩
      obtain ⟨E, hE⟩ : ∃ x, x = editB [7] [((1 : Int), (300 : Int))] 5 0 0 0 900 := ⟨_, rfl⟩
      have hEl : E.length ≤ 2000 := by rw [hE]; exact editB_le (hmE)
      have hEp : 1 ≤ E.length := by rw [hE]; exact editB_pos _ _ _ _ _ _ _
      rw [← hE]
      have hTl := frameB_len 6 E
      generalize frameB 6 E = T at *
      have hup5 := (hu4).trans hu5
      clear hE hd5 hf5 hu4 hu5
      obtain ⟨c6, w6, hconv, hcap, hbeg, hu6⟩ := conv_beg w5 T
      have hg5 : w.heap.size ≤ w5.heap.size := hup5.size
      have hup6 := hup5.trans hu6
      obtain ⟨tn, hTn⟩ : ∃ tn, tn = T.length := ⟨_, rfl⟩
      rw [← hTn] at hconv hcap hTl
      obtain ⟨m, hm⟩ : ∃ m, m = E.length := ⟨_, rfl⟩
      rw [← hm] at hEl hEp hTl
      have HTN := Lib.hid hTn
      clear hm hTn hup5 hu6
      generalize w5.heap.size = g5 at hconv hbeg hg5
      have e1 : cutA (some ⟨g5, 0, none⟩) c6 8 1 = some ⟨g5, 8, none⟩ := by unfold cutA; rw [if_neg (by omega)]; rfl
      have e2 : ((tn : Int) - 4).toNat - 8 = m := by omega
      have hcut : ∀ W, (Instr.slice 43 (.slice (some ⟨g5, 0, none⟩) tn c6) (some (.int .i64 8)) (some (.int .i64 ((tn : Int) - 4))) none).run Try.prog W = .ok (.slice (some ⟨g5, 8, none⟩) m (c6 - 8)) W := fun W => by
        have h := cut_lh_b W (some ⟨g5, 0, none⟩) tn c6 .i64 .i64 8 ((tn : Int) - 4) (by omega) (by omega) (by omega)
        have e3 : (8 : Int).toNat = 8 := rfl
        rw [e3, e1, e2] at h
        exact h
      obtain ⟨I, hI, hIm⟩ : ∃ I : Nat, (C1 : Int) % (m : Int) = (I : Int) ∧ I < m := ⟨C1 % m, by rw [Int.natCast_emod], Nat.mod_lt C1 (by omega)⟩
      have hm0 : ¬ ((m : Int) = 0) := by omega
      have hIi : (I : Int) < (m : Int) := by omega
      obtain ⟨P, hP, hPm⟩ : ∃ P : Nat, (D1 : Int) % ((m : Int) + 1) = (P : Int) ∧ P ≤ m := ⟨D1 % (m + 1), (by rw [Int.natCast_emod]; rfl), by have := Nat.mod_lt D1 (show 0 < m + 1 by omega); omega⟩
      have hP0 : ¬ ((m : Int) + 1 = 0) := by omega
      have szT : ((tx T).size : Int) = (tn : Int) := by rw [tx_size, HTN.out]
      have tw : IntKind.i64.wrap ((tn : Int) - 4) = (tn : Int) - 4 := IntWalk.i64_in _ (by omega)
      have hIT : 8 + I < T.length := by rw [← HTN.out]; omega
      obtain ⟨y, hy⟩ := xor_byte ((T.getD (8 + I) 0).toNat : Int) by0
      have hc8 : w6.cell? ⟨g5, 8 + I, none⟩ = some (.int .u8 ((T.getD (8 + I) 0).toNat : Int)) := hbeg.cell hIT
      have hf8 := hbeg.free hIT
      have hbeg2 := hbeg.set hIT y
      have hlen2 : (T.set (8 + I) y).length = tn := by rw [List.length_set, ← HTN.out]
      have hu8 : Up w (w6.setCell ⟨g5, 8 + I, none⟩ (bv y)) := keeps_fresh (wq := w6) hup6 hg5 (setc_keeps w6 w6 g5 (8 + I) _ (Rg.Keeps.refl _ _))
      have hbv : bv y = .int .u8 (y.toNat : Int) := rfl
      rw [hbv] at hbeg2 hu8
      generalize T.getD (8 + I) 0 = t0 at *
      generalize T.set (8 + I) y = T2 at *
      go_wp2_with fail
      generalize w6.setCell ⟨g5, 8 + I, none⟩ (.int .u8 (y.toNat : Int)) = w8 at *
      have hrd8 := hbeg2.rd
      rw [hlen2] at hrd8
      have hrd8 := (hrd8.bfrom (k := 8) (cap := c6) (by omega) (by omega)).bto (k := m - P) (by omega)
      rw [e1] at hrd8
      generalize (T2.drop 8).take (m - P) = T3 at *
      have hSP : m - P ≤ c6 - 8 := by omega
      have hSP2 : m - P ≤ 3000 := by omega
      clear hc8 hf8 hbeg hbeg2 hcut e1 e2 hI hm0 hIi hP hP0 szT tw hIT hy hlen2 hTl HTN hup6 hconv hC hD
      generalize m - P = D3 at *
      generalize c6 - 8 = c8 at *
      (try rw [show m + 12 - 4 - 8 = m by omega])
      go_loopw [0, 13] (fun bv i wr => ∃ (x : Nat) (X : Option Addr) (xn xc : Nat) (xl : List UInt8), i = .int .i64 (x : Int) ∧ bv = .slice X xn xc ∧ x ≤ 2 ∧ xn ≤ 3000 ∧ xn ≤ xc ∧ Rd wr wr.heap.size 1 X xn (bvs xl) ∧ Up w8 wr) (fun _ i _ => 2 - (intOf i).toNat)
      case atStart => exact ⟨0, B, n, c, bs, rfl, rfl, by omega, by omega, hnc, hb.up hu8, Up.refl _⟩
      case round =>
        obtain ⟨x, X, xn, xc, xl, rfl, rfl, hx2, hxn, hxc, hrdx, hu7⟩ := hrel
        have hcases : x = 0 ∨ x = 1 ∨ x = 2 := by omega
        rcases hcases with rfl | rfl | rfl
        · have hrx := hrdx
          have HBL := Lib.hid hrx.blen
          have hln := readE_len (xl)
          obtain ⟨RR, hRR⟩ : ∃ R, R = readE (xl) := ⟨_, rfl⟩
          rw [← hRR] at hln
          have HRR := Lib.hid hRR
          clear hRR
          have hN3 := erN_le RR
          obtain ⟨⟨ds1, add1, lg1, f1, ce1, at1, le1⟩, hX⟩ : ∃ x, etOf RR = x := ⟨_, rfl⟩
          obtain ⟨N, hNN⟩ : ∃ N, erN RR = N := ⟨_, rfl⟩
          rw [hX] at hln
          rw [hNN] at hN3
          have HX := Lib.hid hX
          have HNN := Lib.hid hNN
          clear hX hNN
          go_wp2_with fail
          refine (eread_any (X) (xn) (xc) (xl) wr hrx (by omega) (by omega)).mono ?_
          intro e w11 hp
          rw [← HRR.out] at hp
          obtain ⟨D1, dn1, dc1, A1, an1, ac1, rfl, hd1, ha1, hu11⟩ := post_one hp
          rw [HX.out] at hd1 ha1 ⊢
          rw [HNN.out]
          (try dsimp only at hd1 ha1 hln ⊢)
          obtain ⟨hln1, hln2⟩ := hln
          have b1 : dn1 ≤ 1099511627776 := by have := hd1.dlen; omega
          have b2 : an1 ≤ 1099511627776 := by have := ha1.flen; omega
          have hw3 : IntKind.i64.wrap (N : Int) = (N : Int) := IntWalk.i64_in _ (by omega)
          have hu12 : Up w11 (w11.alloc (.cells #[.slice D1 dn1 dc1, .slice A1 an1 ac1, .int .i64 lg1, .int .u64 (f1 : Int), .int .u64 (ce1 : Int), .int .u64 (at1 : Int), .int .u64 (le1 : Int)] 32)) := (Up.refl w11).alloc _
          have hh12 : (w11.alloc (.cells #[.slice D1 dn1 dc1, .slice A1 an1 ac1, .int .i64 lg1, .int .u64 (f1 : Int), .int .u64 (ce1 : Int), .int .u64 (at1 : Int), .int .u64 (le1 : Int)] 32)).heap[w11.heap.size]? = some (.cells #[.slice D1 dn1 dc1, .slice A1 an1 ac1, .int .i64 lg1, .int .u64 (f1 : Int), .int .u64 (ce1 : Int), .int .u64 (at1 : Int), .int .u64 (le1 : Int)] 32 (0, 0)) := heap_alloc_new w11 _
          have hr12 := hrx.up (hu11.trans hu12)
          have hcv : (convert 43 9 (.slice (X) (xn) (xc))).run Try.prog (w11.alloc (.cells #[.slice D1 dn1 dc1, .slice A1 an1 ac1, .int .i64 lg1, .int .u64 (f1 : Int), .int .u64 (ce1 : Int), .int .u64 (at1 : Int), .int .u64 (le1 : Int)] 32)) = .ok (.string (tx (xl))) _ := run_str (xc) hr12
          have hu112 := hu11.trans hu12
          have hd12 := hd1.up hu12
          have ha12 := ha1.up hu12
          clear hp hd1 ha1 hu11 hu12 hr12
          go_wp2_with fail
          clear hcv
          generalize w11.alloc (.cells #[.slice D1 dn1 dc1, .slice A1 an1 ac1, .int .i64 lg1, .int .u64 (f1 : Int), .int .u64 (ce1 : Int), .int .u64 (at1 : Int), .int .u64 (le1 : Int)] 32) = w12 at *
          generalize w11.heap.size = g12 at *
          refine (rread_any (tx (xl)) (xl) w12 (tx_list _) (by rw [tx_size]; have := HBL.out; omega)).mono ?_
          intro e w13 hp
          rw [readR_eq, ← HRR.out] at hp
          obtain ⟨D2, dn2, dc2, A2, an2, ac2, rfl, hd2, ha2, hu13⟩ := post_one hp
          rw [HX.out] at hd2 ha2 ⊢
          rw [HNN.out]
          (try dsimp only at hd2 ha2 ⊢)
          have b3 : dn2 ≤ 1099511627776 := by have := hd2.dlen; omega
          have b4 : an2 ≤ 1099511627776 := by have := ha2.flen; omega
          have hu14 : Up w13 (w13.alloc (.cells #[.slice D2 dn2 dc2, .slice A2 an2 ac2, .int .i64 lg1, .int .u64 (f1 : Int), .int .u64 (ce1 : Int), .int .u64 (at1 : Int), .int .u64 (le1 : Int)] 32)) := (Up.refl w13).alloc _
          have hh14 : (w13.alloc (.cells #[.slice D2 dn2 dc2, .slice A2 an2 ac2, .int .i64 lg1, .int .u64 (f1 : Int), .int .u64 (ce1 : Int), .int .u64 (at1 : Int), .int .u64 (le1 : Int)] 32)).heap[w13.heap.size]? = some (.cells #[.slice D2 dn2 dc2, .slice A2 an2 ac2, .int .i64 lg1, .int .u64 (f1 : Int), .int .u64 (ce1 : Int), .int .u64 (at1 : Int), .int .u64 (le1 : Int)] 32 (0, 0)) := heap_alloc_new w13 _
          have hh12b := ((hu13.trans hu14).block _ (Array.getElem?_eq_some_iff.1 hh12).1).trans hh12
          have hd14 := hd2.up hu14
          have ha14 := ha2.up hu14
          have hd15 := hd12.up (hu13.trans hu14)
          have ha15 := ha12.up (hu13.trans hu14)
          have hu214 := hu112.trans (hu13.trans hu14)
          have q0 := blk_cell hh12b 0
          have q1 := blk_cell hh12b 1
          have q2 := blk_cell hh12b 2
          have q3 := blk_cell hh12b 3
          have q4 := blk_cell hh12b 4
          have q5 := blk_cell hh12b 5
          have q6 := blk_cell hh12b 6
          have p0 := blk_cell hh14 0
          have p1 := blk_cell hh14 1
          have p2 := blk_cell hh14 2
          have p3 := blk_cell hh14 3
          have p4 := blk_cell hh14 4
          have p5 := blk_cell hh14 5
          have p6 := blk_cell hh14 6
          have hsm : sameE ds1 add1 lg1 f1 ce1 at1 le1 ds1 add1 lg1 f1 ce1 at1 le1 = true := by unfold sameE; simp
          have HSM := Lib.hid hsm
          clear hsm hh12 hh12b hh14 hd2 ha2 hd12 ha12 hu13 hu14 hu112 hp hln1 hln2 hrdx
          go_wp2_with fail
          refine (same15_any D1 dn1 dc1 ds1 A1 an1 ac1 add1 lg1 f1 ce1 at1 le1 D2 dn2 dc2 ds1 A2 an2 ac2 add1 lg1 f1 ce1 at1 le1 _ hd15 b1 ha15 b2 hd14 b3 ha14 b4).mono ?_
          rintro e w16 ⟨rfl, hu16⟩
          rw [HSM.out]
          have hr16 := (hrx.up hu214).up hu16
          have hu716 := hu7.trans (hu214.trans hu16)
          clear q0 q1 q2 q3 q4 q5 q6 p0 p1 p2 p3 p4 p5 p6 hd14 ha14 hd15 ha15 hrx
          go_wp2_with fail
          go_roundw
          case rel => exact ⟨1, X, xn, xc, xl, by go_num, rfl, by omega, by omega, by omega, hr16, hu716⟩
          case measure => simp [intOf]
        · have hrx := hrd8.up hu7
          have HBL := Lib.hid hrx.blen
          have hln := readE_len (T3)
          obtain ⟨RR, hRR⟩ : ∃ R, R = readE (T3) := ⟨_, rfl⟩
          rw [← hRR] at hln
          have HRR := Lib.hid hRR
          clear hRR
          have hN3 := erN_le RR
          obtain ⟨⟨ds1, add1, lg1, f1, ce1, at1, le1⟩, hX⟩ : ∃ x, etOf RR = x := ⟨_, rfl⟩
          obtain ⟨N, hNN⟩ : ∃ N, erN RR = N := ⟨_, rfl⟩
          rw [hX] at hln
          rw [hNN] at hN3
          have HX := Lib.hid hX
          have HNN := Lib.hid hNN
          clear hX hNN
          go_wp2_with fail
          refine (eread_any (some ⟨g5, 8, none⟩) (D3) (c8) (T3) wr hrx (by omega) (by omega)).mono ?_
          intro e w11 hp
          rw [← HRR.out] at hp
          obtain ⟨D1, dn1, dc1, A1, an1, ac1, rfl, hd1, ha1, hu11⟩ := post_one hp
          rw [HX.out] at hd1 ha1 ⊢
          rw [HNN.out]
          (try dsimp only at hd1 ha1 hln ⊢)
          obtain ⟨hln1, hln2⟩ := hln
          have b1 : dn1 ≤ 1099511627776 := by have := hd1.dlen; omega
          have b2 : an1 ≤ 1099511627776 := by have := ha1.flen; omega
          have hw3 : IntKind.i64.wrap (N : Int) = (N : Int) := IntWalk.i64_in _ (by omega)
          have hu12 : Up w11 (w11.alloc (.cells #[.slice D1 dn1 dc1, .slice A1 an1 ac1, .int .i64 lg1, .int .u64 (f1 : Int), .int .u64 (ce1 : Int), .int .u64 (at1 : Int), .int .u64 (le1 : Int)] 32)) := (Up.refl w11).alloc _
          have hh12 : (w11.alloc (.cells #[.slice D1 dn1 dc1, .slice A1 an1 ac1, .int .i64 lg1, .int .u64 (f1 : Int), .int .u64 (ce1 : Int), .int .u64 (at1 : Int), .int .u64 (le1 : Int)] 32)).heap[w11.heap.size]? = some (.cells #[.slice D1 dn1 dc1, .slice A1 an1 ac1, .int .i64 lg1, .int .u64 (f1 : Int), .int .u64 (ce1 : Int), .int .u64 (at1 : Int), .int .u64 (le1 : Int)] 32 (0, 0)) := heap_alloc_new w11 _
          have hr12 := hrx.up (hu11.trans hu12)
          have hcv : (convert 43 9 (.slice (some ⟨g5, 8, none⟩) (D3) (c8))).run Try.prog (w11.alloc (.cells #[.slice D1 dn1 dc1, .slice A1 an1 ac1, .int .i64 lg1, .int .u64 (f1 : Int), .int .u64 (ce1 : Int), .int .u64 (at1 : Int), .int .u64 (le1 : Int)] 32)) = .ok (.string (tx (T3))) _ := run_str (c8) hr12
          have hu112 := hu11.trans hu12
          have hd12 := hd1.up hu12
          have ha12 := ha1.up hu12
          clear hp hd1 ha1 hu11 hu12 hr12
          go_wp2_with fail
          clear hcv
          generalize w11.alloc (.cells #[.slice D1 dn1 dc1, .slice A1 an1 ac1, .int .i64 lg1, .int .u64 (f1 : Int), .int .u64 (ce1 : Int), .int .u64 (at1 : Int), .int .u64 (le1 : Int)] 32) = w12 at *
          generalize w11.heap.size = g12 at *
          refine (rread_any (tx (T3)) (T3) w12 (tx_list _) (by rw [tx_size]; have := HBL.out; omega)).mono ?_
          intro e w13 hp
          rw [readR_eq, ← HRR.out] at hp
          obtain ⟨D2, dn2, dc2, A2, an2, ac2, rfl, hd2, ha2, hu13⟩ := post_one hp
          rw [HX.out] at hd2 ha2 ⊢
          rw [HNN.out]
          (try dsimp only at hd2 ha2 ⊢)
          have b3 : dn2 ≤ 1099511627776 := by have := hd2.dlen; omega
          have b4 : an2 ≤ 1099511627776 := by have := ha2.flen; omega
          have hu14 : Up w13 (w13.alloc (.cells #[.slice D2 dn2 dc2, .slice A2 an2 ac2, .int .i64 lg1, .int .u64 (f1 : Int), .int .u64 (ce1 : Int), .int .u64 (at1 : Int), .int .u64 (le1 : Int)] 32)) := (Up.refl w13).alloc _
          have hh14 : (w13.alloc (.cells #[.slice D2 dn2 dc2, .slice A2 an2 ac2, .int .i64 lg1, .int .u64 (f1 : Int), .int .u64 (ce1 : Int), .int .u64 (at1 : Int), .int .u64 (le1 : Int)] 32)).heap[w13.heap.size]? = some (.cells #[.slice D2 dn2 dc2, .slice A2 an2 ac2, .int .i64 lg1, .int .u64 (f1 : Int), .int .u64 (ce1 : Int), .int .u64 (at1 : Int), .int .u64 (le1 : Int)] 32 (0, 0)) := heap_alloc_new w13 _
          have hh12b := ((hu13.trans hu14).block _ (Array.getElem?_eq_some_iff.1 hh12).1).trans hh12
          have hd14 := hd2.up hu14
          have ha14 := ha2.up hu14
          have hd15 := hd12.up (hu13.trans hu14)
          have ha15 := ha12.up (hu13.trans hu14)
          have hu214 := hu112.trans (hu13.trans hu14)
          have q0 := blk_cell hh12b 0
          have q1 := blk_cell hh12b 1
          have q2 := blk_cell hh12b 2
          have q3 := blk_cell hh12b 3
          have q4 := blk_cell hh12b 4
          have q5 := blk_cell hh12b 5
          have q6 := blk_cell hh12b 6
          have p0 := blk_cell hh14 0
          have p1 := blk_cell hh14 1
          have p2 := blk_cell hh14 2
          have p3 := blk_cell hh14 3
          have p4 := blk_cell hh14 4
          have p5 := blk_cell hh14 5
          have p6 := blk_cell hh14 6
          have hsm : sameE ds1 add1 lg1 f1 ce1 at1 le1 ds1 add1 lg1 f1 ce1 at1 le1 = true := by unfold sameE; simp
          have HSM := Lib.hid hsm
          clear hsm hh12 hh12b hh14 hd2 ha2 hd12 ha12 hu13 hu14 hu112 hp hln1 hln2 hrdx
          go_wp2_with fail
          refine (same15_any D1 dn1 dc1 ds1 A1 an1 ac1 add1 lg1 f1 ce1 at1 le1 D2 dn2 dc2 ds1 A2 an2 ac2 add1 lg1 f1 ce1 at1 le1 _ hd15 b1 ha15 b2 hd14 b3 ha14 b4).mono ?_
          rintro e w16 ⟨rfl, hu16⟩
          rw [HSM.out]
          have hr16 := (hrx.up hu214).up hu16
          have hu716 := hu7.trans (hu214.trans hu16)
          clear q0 q1 q2 q3 q4 q5 q6 p0 p1 p2 p3 p4 p5 p6 hd14 ha14 hd15 ha15 hrx
          go_wp2_with fail
          go_roundw
          case rel => exact ⟨2, some ⟨g5, 8, none⟩, D3, c8, T3, by go_num, rfl, by omega, by omega, by omega, hr16, hu716⟩
          case measure => simp [intOf]
        · go_wp2_with (go_at_call 11; with_reducible refine (awake15_any _).mono ?_; rintro e w4 ⟨rfl, hu4⟩)
          go_ret
          exact ⟨rfl, (hu8.trans hu7).trans hu4⟩
    · have hm1 : ((mayN true : Nat) : Int) = 0 := rfl
      have q0 := blk_cell hb3 0
      have q1 := blk_cell hb3 1
      have q2 := blk_cell hb3 2
      have q3 := blk_cell hb3 3
      have q4 := blk_cell hb3 4
      have q5 := blk_cell hb3 5
      have q6 := blk_cell hb3 6
      go_wp2_with fail
      clear q0 q1 q2 q3 q4 q5 q6
      refine (redit_any D dn dc ds A an ac add lg f ce at_ le w3 rd3 (by omega) ra3 (by omega) (HM.out.symm)).mono ?_
      rintro e w5 ⟨rfl, hu5⟩
      obtain ⟨E, hE⟩ : ∃ x, x = editB ds add lg f ce at_ le := ⟨_, rfl⟩
      have hEl : E.length ≤ 2000 := by rw [hE]; exact editB_le (HM.out.symm)
      have hEp : 1 ≤ E.length := by rw [hE]; exact editB_pos _ _ _ _ _ _ _
      rw [← hE]
      have hTl := frameB_len 6 E
      generalize frameB 6 E = T at *
      have hup5 := (hup3).trans hu5
      clear hE rd3 ra3 hup3 hu5
      obtain ⟨c6, w6, hconv, hcap, hbeg, hu6⟩ := conv_beg w5 T
      have hg5 : w.heap.size ≤ w5.heap.size := hup5.size
      have hup6 := hup5.trans hu6
      obtain ⟨tn, hTn⟩ : ∃ tn, tn = T.length := ⟨_, rfl⟩
      rw [← hTn] at hconv hcap hTl
      obtain ⟨m, hm⟩ : ∃ m, m = E.length := ⟨_, rfl⟩
      rw [← hm] at hEl hEp hTl
      have HTN := Lib.hid hTn
      clear hm hTn hup5 hu6
      generalize w5.heap.size = g5 at hconv hbeg hg5
      have e1 : cutA (some ⟨g5, 0, none⟩) c6 8 1 = some ⟨g5, 8, none⟩ := by unfold cutA; rw [if_neg (by omega)]; rfl
      have e2 : ((tn : Int) - 4).toNat - 8 = m := by omega
      have hcut : ∀ W, (Instr.slice 43 (.slice (some ⟨g5, 0, none⟩) tn c6) (some (.int .i64 8)) (some (.int .i64 ((tn : Int) - 4))) none).run Try.prog W = .ok (.slice (some ⟨g5, 8, none⟩) m (c6 - 8)) W := fun W => by
        have h := cut_lh_b W (some ⟨g5, 0, none⟩) tn c6 .i64 .i64 8 ((tn : Int) - 4) (by omega) (by omega) (by omega)
        have e3 : (8 : Int).toNat = 8 := rfl
        rw [e3, e1, e2] at h
        exact h
      obtain ⟨I, hI, hIm⟩ : ∃ I : Nat, (C1 : Int) % (m : Int) = (I : Int) ∧ I < m := ⟨C1 % m, by rw [Int.natCast_emod], Nat.mod_lt C1 (by omega)⟩
      have hm0 : ¬ ((m : Int) = 0) := by omega
      have hIi : (I : Int) < (m : Int) := by omega
      obtain ⟨P, hP, hPm⟩ : ∃ P : Nat, (D1 : Int) % ((m : Int) + 1) = (P : Int) ∧ P ≤ m := ⟨D1 % (m + 1), (by rw [Int.natCast_emod]; rfl), by have := Nat.mod_lt D1 (show 0 < m + 1 by omega); omega⟩
      have hP0 : ¬ ((m : Int) + 1 = 0) := by omega
      have szT : ((tx T).size : Int) = (tn : Int) := by rw [tx_size, HTN.out]
      have tw : IntKind.i64.wrap ((tn : Int) - 4) = (tn : Int) - 4 := IntWalk.i64_in _ (by omega)
      have hIT : 8 + I < T.length := by rw [← HTN.out]; omega
      obtain ⟨y, hy⟩ := xor_byte ((T.getD (8 + I) 0).toNat : Int) by0
      have hc8 : w6.cell? ⟨g5, 8 + I, none⟩ = some (.int .u8 ((T.getD (8 + I) 0).toNat : Int)) := hbeg.cell hIT
      have hf8 := hbeg.free hIT
      have hbeg2 := hbeg.set hIT y
      have hlen2 : (T.set (8 + I) y).length = tn := by rw [List.length_set, ← HTN.out]
      have hu8 : Up w (w6.setCell ⟨g5, 8 + I, none⟩ (bv y)) := keeps_fresh (wq := w6) hup6 hg5 (setc_keeps w6 w6 g5 (8 + I) _ (Rg.Keeps.refl _ _))
      have hbv : bv y = .int .u8 (y.toNat : Int) := rfl
      rw [hbv] at hbeg2 hu8
      generalize T.getD (8 + I) 0 = t0 at *
      generalize T.set (8 + I) y = T2 at *
      go_wp2_with fail
      generalize w6.setCell ⟨g5, 8 + I, none⟩ (.int .u8 (y.toNat : Int)) = w8 at *
      have hrd8 := hbeg2.rd
      rw [hlen2] at hrd8
      have hrd8 := (hrd8.bfrom (k := 8) (cap := c6) (by omega) (by omega)).bto (k := m - P) (by omega)
      rw [e1] at hrd8
      generalize (T2.drop 8).take (m - P) = T3 at *
      have hSP : m - P ≤ c6 - 8 := by omega
      have hSP2 : m - P ≤ 3000 := by omega
      clear hc8 hf8 hbeg hbeg2 hcut e1 e2 hI hm0 hIi hP hP0 szT tw hIT hy hlen2 hTl HTN hup6 hconv hC hD
      generalize m - P = D3 at *
      generalize c6 - 8 = c8 at *
      (try rw [show m + 12 - 4 - 8 = m by omega])
      go_loopw [0, 13] (fun bv i wr => ∃ (x : Nat) (X : Option Addr) (xn xc : Nat) (xl : List UInt8), i = .int .i64 (x : Int) ∧ bv = .slice X xn xc ∧ x ≤ 2 ∧ xn ≤ 3000 ∧ xn ≤ xc ∧ Rd wr wr.heap.size 1 X xn (bvs xl) ∧ Up w8 wr) (fun _ i _ => 2 - (intOf i).toNat)
      case atStart => exact ⟨0, B, n, c, bs, rfl, rfl, by omega, by omega, hnc, hb.up hu8, Up.refl _⟩
      case round =>
        obtain ⟨x, X, xn, xc, xl, rfl, rfl, hx2, hxn, hxc, hrdx, hu7⟩ := hrel
        have hcases : x = 0 ∨ x = 1 ∨ x = 2 := by omega
        rcases hcases with rfl | rfl | rfl
        · have hrx := hrdx
          have HBL := Lib.hid hrx.blen
          have hln := readE_len (xl)
          obtain ⟨RR, hRR⟩ : ∃ R, R = readE (xl) := ⟨_, rfl⟩
          rw [← hRR] at hln
          have HRR := Lib.hid hRR
          clear hRR
          have hN3 := erN_le RR
          obtain ⟨⟨ds1, add1, lg1, f1, ce1, at1, le1⟩, hX⟩ : ∃ x, etOf RR = x := ⟨_, rfl⟩
          obtain ⟨N, hNN⟩ : ∃ N, erN RR = N := ⟨_, rfl⟩
          rw [hX] at hln
          rw [hNN] at hN3
          have HX := Lib.hid hX
          have HNN := Lib.hid hNN
          clear hX hNN
          go_wp2_with fail
          refine (eread_any (X) (xn) (xc) (xl) wr hrx (by omega) (by omega)).mono ?_
          intro e w11 hp
          rw [← HRR.out] at hp
          obtain ⟨D1, dn1, dc1, A1, an1, ac1, rfl, hd1, ha1, hu11⟩ := post_one hp
          rw [HX.out] at hd1 ha1 ⊢
          rw [HNN.out]
          (try dsimp only at hd1 ha1 hln ⊢)
          obtain ⟨hln1, hln2⟩ := hln
          have b1 : dn1 ≤ 1099511627776 := by have := hd1.dlen; omega
          have b2 : an1 ≤ 1099511627776 := by have := ha1.flen; omega
          have hw3 : IntKind.i64.wrap (N : Int) = (N : Int) := IntWalk.i64_in _ (by omega)
          have hu12 : Up w11 (w11.alloc (.cells #[.slice D1 dn1 dc1, .slice A1 an1 ac1, .int .i64 lg1, .int .u64 (f1 : Int), .int .u64 (ce1 : Int), .int .u64 (at1 : Int), .int .u64 (le1 : Int)] 32)) := (Up.refl w11).alloc _
          have hh12 : (w11.alloc (.cells #[.slice D1 dn1 dc1, .slice A1 an1 ac1, .int .i64 lg1, .int .u64 (f1 : Int), .int .u64 (ce1 : Int), .int .u64 (at1 : Int), .int .u64 (le1 : Int)] 32)).heap[w11.heap.size]? = some (.cells #[.slice D1 dn1 dc1, .slice A1 an1 ac1, .int .i64 lg1, .int .u64 (f1 : Int), .int .u64 (ce1 : Int), .int .u64 (at1 : Int), .int .u64 (le1 : Int)] 32 (0, 0)) := heap_alloc_new w11 _
          have hr12 := hrx.up (hu11.trans hu12)
          have hcv : (convert 43 9 (.slice (X) (xn) (xc))).run Try.prog (w11.alloc (.cells #[.slice D1 dn1 dc1, .slice A1 an1 ac1, .int .i64 lg1, .int .u64 (f1 : Int), .int .u64 (ce1 : Int), .int .u64 (at1 : Int), .int .u64 (le1 : Int)] 32)) = .ok (.string (tx (xl))) _ := run_str (xc) hr12
          have hu112 := hu11.trans hu12
          have hd12 := hd1.up hu12
          have ha12 := ha1.up hu12
          clear hp hd1 ha1 hu11 hu12 hr12
          go_wp2_with fail
          clear hcv
          generalize w11.alloc (.cells #[.slice D1 dn1 dc1, .slice A1 an1 ac1, .int .i64 lg1, .int .u64 (f1 : Int), .int .u64 (ce1 : Int), .int .u64 (at1 : Int), .int .u64 (le1 : Int)] 32) = w12 at *
          generalize w11.heap.size = g12 at *
          refine (rread_any (tx (xl)) (xl) w12 (tx_list _) (by rw [tx_size]; have := HBL.out; omega)).mono ?_
          intro e w13 hp
          rw [readR_eq, ← HRR.out] at hp
          obtain ⟨D2, dn2, dc2, A2, an2, ac2, rfl, hd2, ha2, hu13⟩ := post_one hp
          rw [HX.out] at hd2 ha2 ⊢
          rw [HNN.out]
          (try dsimp only at hd2 ha2 ⊢)
          have b3 : dn2 ≤ 1099511627776 := by have := hd2.dlen; omega
          have b4 : an2 ≤ 1099511627776 := by have := ha2.flen; omega
          have hu14 : Up w13 (w13.alloc (.cells #[.slice D2 dn2 dc2, .slice A2 an2 ac2, .int .i64 lg1, .int .u64 (f1 : Int), .int .u64 (ce1 : Int), .int .u64 (at1 : Int), .int .u64 (le1 : Int)] 32)) := (Up.refl w13).alloc _
          have hh14 : (w13.alloc (.cells #[.slice D2 dn2 dc2, .slice A2 an2 ac2, .int .i64 lg1, .int .u64 (f1 : Int), .int .u64 (ce1 : Int), .int .u64 (at1 : Int), .int .u64 (le1 : Int)] 32)).heap[w13.heap.size]? = some (.cells #[.slice D2 dn2 dc2, .slice A2 an2 ac2, .int .i64 lg1, .int .u64 (f1 : Int), .int .u64 (ce1 : Int), .int .u64 (at1 : Int), .int .u64 (le1 : Int)] 32 (0, 0)) := heap_alloc_new w13 _
          have hh12b := ((hu13.trans hu14).block _ (Array.getElem?_eq_some_iff.1 hh12).1).trans hh12
          have hd14 := hd2.up hu14
          have ha14 := ha2.up hu14
          have hd15 := hd12.up (hu13.trans hu14)
          have ha15 := ha12.up (hu13.trans hu14)
          have hu214 := hu112.trans (hu13.trans hu14)
          have q0 := blk_cell hh12b 0
          have q1 := blk_cell hh12b 1
          have q2 := blk_cell hh12b 2
          have q3 := blk_cell hh12b 3
          have q4 := blk_cell hh12b 4
          have q5 := blk_cell hh12b 5
          have q6 := blk_cell hh12b 6
          have p0 := blk_cell hh14 0
          have p1 := blk_cell hh14 1
          have p2 := blk_cell hh14 2
          have p3 := blk_cell hh14 3
          have p4 := blk_cell hh14 4
          have p5 := blk_cell hh14 5
          have p6 := blk_cell hh14 6
          have hsm : sameE ds1 add1 lg1 f1 ce1 at1 le1 ds1 add1 lg1 f1 ce1 at1 le1 = true := by unfold sameE; simp
          have HSM := Lib.hid hsm
          clear hsm hh12 hh12b hh14 hd2 ha2 hd12 ha12 hu13 hu14 hu112 hp hln1 hln2 hrdx
          go_wp2_with fail
          refine (same15_any D1 dn1 dc1 ds1 A1 an1 ac1 add1 lg1 f1 ce1 at1 le1 D2 dn2 dc2 ds1 A2 an2 ac2 add1 lg1 f1 ce1 at1 le1 _ hd15 b1 ha15 b2 hd14 b3 ha14 b4).mono ?_
          rintro e w16 ⟨rfl, hu16⟩
          rw [HSM.out]
          have hr16 := (hrx.up hu214).up hu16
          have hu716 := hu7.trans (hu214.trans hu16)
          clear q0 q1 q2 q3 q4 q5 q6 p0 p1 p2 p3 p4 p5 p6 hd14 ha14 hd15 ha15 hrx
          go_wp2_with fail
          go_roundw
          case rel => exact ⟨1, X, xn, xc, xl, by go_num, rfl, by omega, by omega, by omega, hr16, hu716⟩
          case measure => simp [intOf]
        · have hrx := hrd8.up hu7
          have HBL := Lib.hid hrx.blen
          have hln := readE_len (T3)
          obtain ⟨RR, hRR⟩ : ∃ R, R = readE (T3) := ⟨_, rfl⟩
          rw [← hRR] at hln
          have HRR := Lib.hid hRR
          clear hRR
          have hN3 := erN_le RR
          obtain ⟨⟨ds1, add1, lg1, f1, ce1, at1, le1⟩, hX⟩ : ∃ x, etOf RR = x := ⟨_, rfl⟩
          obtain ⟨N, hNN⟩ : ∃ N, erN RR = N := ⟨_, rfl⟩
          rw [hX] at hln
          rw [hNN] at hN3
          have HX := Lib.hid hX
          have HNN := Lib.hid hNN
          clear hX hNN
          go_wp2_with fail
          refine (eread_any (some ⟨g5, 8, none⟩) (D3) (c8) (T3) wr hrx (by omega) (by omega)).mono ?_
          intro e w11 hp
          rw [← HRR.out] at hp
          obtain ⟨D1, dn1, dc1, A1, an1, ac1, rfl, hd1, ha1, hu11⟩ := post_one hp
          rw [HX.out] at hd1 ha1 ⊢
          rw [HNN.out]
          (try dsimp only at hd1 ha1 hln ⊢)
          obtain ⟨hln1, hln2⟩ := hln
          have b1 : dn1 ≤ 1099511627776 := by have := hd1.dlen; omega
          have b2 : an1 ≤ 1099511627776 := by have := ha1.flen; omega
          have hw3 : IntKind.i64.wrap (N : Int) = (N : Int) := IntWalk.i64_in _ (by omega)
          have hu12 : Up w11 (w11.alloc (.cells #[.slice D1 dn1 dc1, .slice A1 an1 ac1, .int .i64 lg1, .int .u64 (f1 : Int), .int .u64 (ce1 : Int), .int .u64 (at1 : Int), .int .u64 (le1 : Int)] 32)) := (Up.refl w11).alloc _
          have hh12 : (w11.alloc (.cells #[.slice D1 dn1 dc1, .slice A1 an1 ac1, .int .i64 lg1, .int .u64 (f1 : Int), .int .u64 (ce1 : Int), .int .u64 (at1 : Int), .int .u64 (le1 : Int)] 32)).heap[w11.heap.size]? = some (.cells #[.slice D1 dn1 dc1, .slice A1 an1 ac1, .int .i64 lg1, .int .u64 (f1 : Int), .int .u64 (ce1 : Int), .int .u64 (at1 : Int), .int .u64 (le1 : Int)] 32 (0, 0)) := heap_alloc_new w11 _
          have hr12 := hrx.up (hu11.trans hu12)
          have hcv : (convert 43 9 (.slice (some ⟨g5, 8, none⟩) (D3) (c8))).run Try.prog (w11.alloc (.cells #[.slice D1 dn1 dc1, .slice A1 an1 ac1, .int .i64 lg1, .int .u64 (f1 : Int), .int .u64 (ce1 : Int), .int .u64 (at1 : Int), .int .u64 (le1 : Int)] 32)) = .ok (.string (tx (T3))) _ := run_str (c8) hr12
          have hu112 := hu11.trans hu12
          have hd12 := hd1.up hu12
          have ha12 := ha1.up hu12
          clear hp hd1 ha1 hu11 hu12 hr12
          go_wp2_with fail
          clear hcv
          generalize w11.alloc (.cells #[.slice D1 dn1 dc1, .slice A1 an1 ac1, .int .i64 lg1, .int .u64 (f1 : Int), .int .u64 (ce1 : Int), .int .u64 (at1 : Int), .int .u64 (le1 : Int)] 32) = w12 at *
          generalize w11.heap.size = g12 at *
          refine (rread_any (tx (T3)) (T3) w12 (tx_list _) (by rw [tx_size]; have := HBL.out; omega)).mono ?_
          intro e w13 hp
          rw [readR_eq, ← HRR.out] at hp
          obtain ⟨D2, dn2, dc2, A2, an2, ac2, rfl, hd2, ha2, hu13⟩ := post_one hp
          rw [HX.out] at hd2 ha2 ⊢
          rw [HNN.out]
          (try dsimp only at hd2 ha2 ⊢)
          have b3 : dn2 ≤ 1099511627776 := by have := hd2.dlen; omega
          have b4 : an2 ≤ 1099511627776 := by have := ha2.flen; omega
          have hu14 : Up w13 (w13.alloc (.cells #[.slice D2 dn2 dc2, .slice A2 an2 ac2, .int .i64 lg1, .int .u64 (f1 : Int), .int .u64 (ce1 : Int), .int .u64 (at1 : Int), .int .u64 (le1 : Int)] 32)) := (Up.refl w13).alloc _
          have hh14 : (w13.alloc (.cells #[.slice D2 dn2 dc2, .slice A2 an2 ac2, .int .i64 lg1, .int .u64 (f1 : Int), .int .u64 (ce1 : Int), .int .u64 (at1 : Int), .int .u64 (le1 : Int)] 32)).heap[w13.heap.size]? = some (.cells #[.slice D2 dn2 dc2, .slice A2 an2 ac2, .int .i64 lg1, .int .u64 (f1 : Int), .int .u64 (ce1 : Int), .int .u64 (at1 : Int), .int .u64 (le1 : Int)] 32 (0, 0)) := heap_alloc_new w13 _
          have hh12b := ((hu13.trans hu14).block _ (Array.getElem?_eq_some_iff.1 hh12).1).trans hh12
          have hd14 := hd2.up hu14
          have ha14 := ha2.up hu14
          have hd15 := hd12.up (hu13.trans hu14)
          have ha15 := ha12.up (hu13.trans hu14)
          have hu214 := hu112.trans (hu13.trans hu14)
          have q0 := blk_cell hh12b 0
          have q1 := blk_cell hh12b 1
          have q2 := blk_cell hh12b 2
          have q3 := blk_cell hh12b 3
          have q4 := blk_cell hh12b 4
          have q5 := blk_cell hh12b 5
          have q6 := blk_cell hh12b 6
          have p0 := blk_cell hh14 0
          have p1 := blk_cell hh14 1
          have p2 := blk_cell hh14 2
          have p3 := blk_cell hh14 3
          have p4 := blk_cell hh14 4
          have p5 := blk_cell hh14 5
          have p6 := blk_cell hh14 6
          have hsm : sameE ds1 add1 lg1 f1 ce1 at1 le1 ds1 add1 lg1 f1 ce1 at1 le1 = true := by unfold sameE; simp
          have HSM := Lib.hid hsm
          clear hsm hh12 hh12b hh14 hd2 ha2 hd12 ha12 hu13 hu14 hu112 hp hln1 hln2 hrdx
          go_wp2_with fail
          refine (same15_any D1 dn1 dc1 ds1 A1 an1 ac1 add1 lg1 f1 ce1 at1 le1 D2 dn2 dc2 ds1 A2 an2 ac2 add1 lg1 f1 ce1 at1 le1 _ hd15 b1 ha15 b2 hd14 b3 ha14 b4).mono ?_
          rintro e w16 ⟨rfl, hu16⟩
          rw [HSM.out]
          have hr16 := (hrx.up hu214).up hu16
          have hu716 := hu7.trans (hu214.trans hu16)
          clear q0 q1 q2 q3 q4 q5 q6 p0 p1 p2 p3 p4 p5 p6 hd14 ha14 hd15 ha15 hrx
          go_wp2_with fail
          go_roundw
          case rel => exact ⟨2, some ⟨g5, 8, none⟩, D3, c8, T3, by go_num, rfl, by omega, by omega, by omega, hr16, hu716⟩
          case measure => simp [intOf]
        · go_wp2_with (go_at_call 11; with_reducible refine (awake15_any _).mono ?_; rintro e w4 ⟨rfl, hu4⟩)
          go_ret
          exact ⟨rfl, (hu8.trans hu7).trans hu4⟩
  · have hfd : decide (dn ≤ 60 ∧ an ≤ 60) = false := by simp; omega
    rw [hfd]
    clear hfd hf
    go_wp2_with (go_at_call 11; with_reducible refine (awake15_any _).mono ?_; rintro e w4 ⟨rfl, hu4⟩)
    go_ret
    exact ⟨rfl, hup2.trans hu4⟩
end Go.Proofs.Ytokcaoaclheiiaa.editReads
