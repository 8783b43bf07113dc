/-
  The law EditFields: the walk.
-/
import Derived.Test.YtokcaoaclheiiaaEditW6
import Derived.Laws.BitsAllLaws
import Derived.Test.YtokcaoaclheiiaaNumLaw
namespace Go.Proofs.Ytokcaoaclheiiaa.editFields
open Go.RowKit
set_option linter.unusedVariables false
set_option linter.unusedSimpArgs false

theorem cell_set_ne (W : World) (g j g' j' : Nat) (v : Value) (h : ¬ (g = g' ∧ j = j')) : (W.setCell ⟨g, j, none⟩ v).cell? ⟨g', j', none⟩ = W.cell? ⟨g', j', none⟩ :=
  World.cell?_setCell_other W _ _ v (fun e => h (by injection e with e1 e2; exact ⟨e1, e2⟩))
theorem u64_and_le (a m : Nat) (ha : a < 18446744073709551616) (hm : m < 18446744073709551616) : ∃ c : Nat, bits .and .u64 (a : Int) (m : Int) = (c : Int) ∧ c ≤ m :=
  ⟨a &&& m, u64_and_nat a m ha hm, Nat.and_le_right⟩
theorem sameView_yes (lg : Int) (A : Option Addr) (n c f ce at_ le : Nat) (lg' : Int) (A' : Option Addr) (n' c' f' ce' at' le' : Nat) (w : World)
    (hr : Rd w w.heap.size 2 A n (fvs [])) (hr' : Rd w w.heap.size 2 A' n' (fvs [])) (h1 : lg = lg') (h2 : f = f') (h3 : ce = ce') (h4 : at_ = at') (h5 : le = le') :
    Calls Try.prog 10 #[.agg #[.int .i64 lg, .slice A n c, .int .u64 (f : Int), .int .u64 (ce : Int), .int .u64 (at_ : Int), .int .u64 (le : Int)], .agg #[.int .i64 lg', .slice A' n' c', .int .u64 (f' : Int), .int .u64 (ce' : Int), .int .u64 (at' : Int), .int .u64 (le' : Int)]] w
      fun e w' => e = .returned (.bool true) ∧ Up w w' := by
  have hn : n = 0 := by have := hr.flen; simpa using this
  have hn' : n' = 0 := by have := hr'.flen; simpa using this
  refine (sameView_any lg A n c [] f ce at_ le lg' A' n' c' [] f' ce' at' le' w hr hr' (by omega) (by omega)).mono ?_
  rintro e w1 ⟨rfl, hu⟩
  refine ⟨?_, hu⟩
  have : sameV lg [] f ce at_ le lg' [] f' ce' at' le' = true := by
    unfold sameV
    rw [decide_eq_true_iff]
    exact ⟨h1, h2, h3, h4, h5, rfl⟩
  rw [this]
set_option maxRecDepth 100000 in
set_option maxHeartbeats 16000000 in
theorem law_any (a0 a1 a2 a3 b0 b1 b2 b3 : Nat) (log : Int) (w : World) (x0 : a0 < 18446744073709551616) (x1 : a1 < 18446744073709551616) (x2 : a2 < 18446744073709551616) (x3 : a3 < 18446744073709551616)
    (y0 : b0 < 18446744073709551616) (y1 : b1 < 18446744073709551616) (y2 : b2 < 18446744073709551616) (y3 : b3 < 18446744073709551616) (hl : -9223372036854775808 ≤ log ∧ log ≤ 9223372036854775807) :
    Calls Try.prog 3 #[.agg #[.int .u64 (a0 : Int), .int .u64 (a1 : Int), .int .u64 (a2 : Int), .int .u64 (a3 : Int)], .agg #[.int .u64 (b0 : Int), .int .u64 (b1 : Int), .int .u64 (b2 : Int), .int .u64 (b3 : Int)], .int .i64 log] w fun e w' => e = .returned (.bool true) ∧ Up w w' := by
  obtain ⟨A0, hA0, hA0l⟩ := u64_and_le a0 65535 x0 (by decide)
  obtain ⟨A1, hA1, hA1l⟩ := u64_and_le a1 65535 x1 (by decide)
  obtain ⟨A2, hA2, hA2l⟩ := u64_and_le a2 65535 x2 (by decide)
  obtain ⟨A3, hA3, hA3l⟩ := u64_and_le a3 65535 x3 (by decide)
  obtain ⟨B0, hB0, hB0l⟩ := u64_and_le b0 255 y0 (by decide)
  obtain ⟨B1, hB1, hB1l⟩ := u64_and_le b1 255 y1 (by decide)
  obtain ⟨B2, hB2, hB2l⟩ := u64_and_le b2 255 y2 (by decide)
  obtain ⟨B3, hB3, hB3l⟩ := u64_and_le b3 255 y3 (by decide)
  obtain ⟨LOG, hLOG, hLOGl⟩ := i64_and_le log 255 (by omega)
  replace hLOG : bits .and .i64 log 255 = (LOG : Int) := hLOG
  replace hA0 : bits .and .u64 (a0 : Int) 65535 = (A0 : Int) := hA0
  replace hA1 : bits .and .u64 (a1 : Int) 65535 = (A1 : Int) := hA1
  replace hA2 : bits .and .u64 (a2 : Int) 65535 = (A2 : Int) := hA2
  replace hA3 : bits .and .u64 (a3 : Int) 65535 = (A3 : Int) := hA3
  replace hB0 : bits .and .u64 (b0 : Int) 255 = (B0 : Int) := hB0
  replace hB1 : bits .and .u64 (b1 : Int) 255 = (B1 : Int) := hB1
  replace hB2 : bits .and .u64 (b2 : Int) 255 = (B2 : Int) := hB2
  replace hB3 : bits .and .u64 (b3 : Int) 255 = (B3 : Int) := hB3
  have CN : ∀ (W : World) (g j g' j' : Nat) (v : Value), ¬ (g = g' ∧ j = j') → (W.setCell ⟨g, j, none⟩ v).cell? ⟨g', j', none⟩ = W.cell? ⟨g', j', none⟩ := fun W g j g' j' v h => cell_set_ne W g j g' j' v h
  go_enter Try.func3, Try.ntmps3
  go_wp2_with fail
  obtain ⟨w3, hw3⟩ : ∃ w3, w3 = ((w.alloc (.cells #[.int .u64 (A0 : Int), .int .u64 (A1 : Int), .int .u64 (A2 : Int), .int .u64 (A3 : Int)] 24)).alloc (.cells #[.int .u64 (B0 : Int), .int .u64 (B1 : Int), .int .u64 (B2 : Int), .int .u64 (B3 : Int)] 24)).alloc
    (.cells #[.int .i64 9, .slice none 0 0, .int .u64 (A0 : Int), .int .u64 (A1 : Int), .int .u64 (A2 : Int), .int .u64 (A3 : Int)] 27) := ⟨_, rfl⟩
  have hup3 : Up w w3 := by rw [hw3]; exact (((Up.refl w).alloc _).alloc _).alloc _
  have h2 : w3.heap[w.heap.size + 1]? = some (.cells #[.int .u64 (B0 : Int), .int .u64 (B1 : Int), .int .u64 (B2 : Int), .int .u64 (B3 : Int)] 24 (0, 0)) := by
    rw [hw3, Below.heap_alloc _ _ _ (by simp)]
    have h := heap_alloc_new (w.alloc (.cells #[.int .u64 (A0 : Int), .int .u64 (A1 : Int), .int .u64 (A2 : Int), .int .u64 (A3 : Int)] 24)) (.cells #[.int .u64 (B0 : Int), .int .u64 (B1 : Int), .int .u64 (B2 : Int), .int .u64 (B3 : Int)] 24)
    rwa [World.size_alloc] at h
  have h3 : w3.heap[w.heap.size + 1 + 1]? = some (.cells #[.int .i64 9, .slice none 0 0, .int .u64 (A0 : Int), .int .u64 (A1 : Int), .int .u64 (A2 : Int), .int .u64 (A3 : Int)] 27 (0, 0)) := by
    rw [hw3]
    have h := heap_alloc_new ((w.alloc (.cells #[.int .u64 (A0 : Int), .int .u64 (A1 : Int), .int .u64 (A2 : Int), .int .u64 (A3 : Int)] 24)).alloc (.cells #[.int .u64 (B0 : Int), .int .u64 (B1 : Int), .int .u64 (B2 : Int), .int .u64 (B3 : Int)] 24)) (.cells #[.int .i64 9, .slice none 0 0, .int .u64 (A0 : Int), .int .u64 (A1 : Int), .int .u64 (A2 : Int), .int .u64 (A3 : Int)] 27)
    rwa [World.size_alloc, World.size_alloc] at h
  rw [← hw3]
  clear hw3
  have hap : applyR 9 [] A0 A1 A2 A3 [] [] (LOG : Int) B0 B1 B2 B3 = some (updI 9 LOG, [], updN A0 B0, updN A1 B1, updN A2 B2, updN A3 B3) := by
    have hvk : viewOk (updI 9 LOG) ([] ++ []) (updN A0 B0) (updN A1 B1) (updN A2 B2) (updN A3 B3) = true := by
      have e1 : numOk (updI 9 (LOG : Int)) = true := by
        unfold numOk updI
        by_cases h : (LOG : Int) = 0
        · rw [if_pos h]; decide
        · rw [if_neg h]; simp; omega
      have ev : ∀ a b : Nat, a ≤ 65535 → b ≤ 255 → verOk (updN a b) = true := by
        intro a b ha hb
        unfold verOk updN
        split <;> (simp; omega)
      unfold viewOk
      rw [e1]
      simp only [List.all_cons, List.all_nil, ev A0 B0 hA0l hB0l, ev A1 B1 hA1l hB1l, ev A2 B2 hA2l hB2l, ev A3 B3 hA3l hB3l]
      rfl
    unfold applyR
    show (if _ then _ else _) = _
    rw [if_pos hvk]; rfl
  have HAP := Lib.hid hap
  clear hap hA0 hA1 hA2 hA3 hB0 hB1 hB2 hB3 hLOG
  refine (apply_any 9 none 0 0 [] A0 A1 A2 A3 none 0 0 [] none 0 0 [] LOG B0 B1 B2 B3 w3 Rd.empty (by omega) Rd.empty (by omega) Rd.empty (by omega)).mono ?_
  intro e w4 hp
  rw [HAP.out] at hp
  obtain ⟨R, rn, rfl, hrd4, hu4⟩ := hp
  have hrn : rn = 0 := by have := hrd4.flen; simpa using this
  subst hrn
  have k2 := (hu4.block _ (Array.getElem?_eq_some_iff.1 h2).1).trans h2
  have k3 := (hu4.block _ (Array.getElem?_eq_some_iff.1 h3).1).trans h3
  have hup4 := hup3.trans hu4
  simp only []
  obtain ⟨NL, hNL⟩ : ∃ NL, NL = updI 9 (LOG : Int) := ⟨_, rfl⟩
  obtain ⟨N0, hN0⟩ : ∃ N0, N0 = updN A0 B0 := ⟨_, rfl⟩
  obtain ⟨N1, hN1⟩ : ∃ N1, N1 = updN A1 B1 := ⟨_, rfl⟩
  obtain ⟨N2, hN2⟩ : ∃ N2, N2 = updN A2 B2 := ⟨_, rfl⟩
  obtain ⟨N3, hN3⟩ : ∃ N3, N3 = updN A3 B3 := ⟨_, rfl⟩
  rw [← hNL, ← hN0, ← hN1, ← hN2, ← hN3]
  have HNL := Lib.hid hNL
  have HN0 := Lib.hid hN0
  have HN1 := Lib.hid hN1
  have HN2 := Lib.hid hN2
  have HN3 := Lib.hid hN3
  clear hNL hN0 hN1 hN2 hN3
  clear hrd4 hu4 h2 h3 hup3
  have p0 := blk_cell k2 0
  have p1 := blk_cell k2 1
  have p2 := blk_cell k2 2
  have p3 := blk_cell k2 3
  have q0 := blk_cell k3 0
  have q1 := blk_cell k3 1
  have q2 := blk_cell k3 2
  have q3 := blk_cell k3 3
  have q4 := blk_cell k3 4
  have q5 := blk_cell k3 5
  have l1 : w.heap.size + 1 < w4.heap.size := (Array.getElem?_eq_some_iff.1 k2).1
  have l2 : w.heap.size + 1 + 1 < w4.heap.size := (Array.getElem?_eq_some_iff.1 k3).1
  generalize w.heap.size + 1 + 1 = gv at *
  generalize w.heap.size + 1 = g2 at *
  go_wp2_with fail
  all_goals
    refine (sameView_yes _ _ 0 _ _ _ _ _ _ _ 0 _ _ _ _ _ _ Rd.empty Rd.empty ?_ ?_ ?_ ?_ ?_).mono ?_
    · rw [HNL.out]; unfold updI; split <;> omega
    · rw [HN0.out]; unfold updN; split <;> omega
    · rw [HN1.out]; unfold updN; split <;> omega
    · rw [HN2.out]; unfold updN; split <;> omega
    · rw [HN3.out]; unfold updN; split <;> omega
    rintro e w6 ⟨rfl, hu6⟩
    clear p0 p1 p2 p3 q0 q1 q2 q3 q4 q5 k2 k3
    go_wp2_with (go_at_call 11; with_reducible refine (awake15_any _).mono ?_; rintro e w7 ⟨rfl, hu7⟩)
    go_ret
    exact ⟨rfl, (hup4.trans (((Up.refl w4).alloc _).alloc _)).trans (hu6.trans hu7)⟩
end Go.Proofs.Ytokcaoaclheiiaa.editFields
