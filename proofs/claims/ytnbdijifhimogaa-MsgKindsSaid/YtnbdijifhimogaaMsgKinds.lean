/-
  The law MsgKinds: the walk.
-/
import Derived.Test.YtnbdijifhimogaaMsgLaw
namespace Go.Proofs.Ytnbdijifhimogaa.msgKinds
open Go.RowKit
set_option linter.unusedVariables false
set_option linter.unusedSimpArgs false

def itK : It := ⟨1, 2, 0, 5, 0⟩
theorem itK_ok : okB itK = true := by decide
theorem itK_c : itcs [itK] = [.int .i64 1, .int .i64 2, .int .u64 0, .int .u64 5, .int .i64 0] := rfl
theorem kB_none (k f t : Int) : msgB k f t 0 0 [] = decide (1 ≤ k ∧ k ≤ 10 ∧ 0 ≤ f ∧ f ≤ 6 ∧ 0 ≤ t ∧ t ≤ 6) := by
  unfold msgB
  rw [Bool.eq_iff_iff]
  simp only [List.all_nil, Bool.and_true, decide_eq_true_eq, List.length_nil]
  constructor
  · rintro ⟨a1, a2, ⟨a3, a4⟩, ⟨a5, a6⟩, -⟩; exact ⟨a1, a2, a3, by omega, a5, by omega⟩
  · rintro ⟨a1, a2, a3, a4, a5, a6⟩; exact ⟨a1, a2, ⟨a3, by omega⟩, ⟨a5, by omega⟩, by omega, by omega, by omega, .inl trivial⟩
theorem kB_one (k f t : Int) : msgB k f t 0 0 [itK] = decide ((1 ≤ k ∧ k ≤ 10 ∧ 0 ≤ f ∧ f ≤ 6 ∧ 0 ≤ t ∧ t ≤ 6) ∧ (k = 1 ∨ k = 5 ∨ k = 7 ∨ k = 8)) := by
  unfold msgB
  rw [Bool.eq_iff_iff]
  simp only [List.all_cons, List.all_nil, itK_ok, Bool.and_true, decide_eq_true_eq, List.length_cons, List.length_nil, withB]
  constructor
  · rintro ⟨a1, a2, ⟨a3, a4⟩, ⟨a5, a6⟩, -, -, -, a7⟩; exact ⟨⟨a1, a2, a3, by omega, a5, by omega⟩, a7.resolve_left (by omega)⟩
  · rintro ⟨⟨a1, a2, a3, a4, a5, a6⟩, a7⟩; exact ⟨a1, a2, ⟨a3, by omega⟩, ⟨a5, by omega⟩, by omega, by omega, by omega, .inr a7⟩
set_option maxRecDepth 100000 in
set_option maxHeartbeats 16000000 in
theorem law_any (k f t : Int) (b : Bool) (w : World) (z1 : -9223372036854775808 ≤ k ∧ k ≤ 9223372036854775807) (z2 : -9223372036854775808 ≤ f ∧ f ≤ 9223372036854775807) (z3 : -9223372036854775808 ≤ t ∧ t ≤ 9223372036854775807) :
    Calls Try.prog 3 #[.int .i64 k, .int .i64 f, .int .i64 t, .bool b] w fun e w' => e = .returned (.bool true) ∧ Up w w' := by
  clear z1 z2 z3
  cases b
  · have hb1 : (w.alloc (.cells #[.int .i64 k, .int .i64 f, .int .i64 t, .int .u64 0, .int .u64 0, .slice none 0 0] 25)).heap[w.heap.size]? = some (.cells #[.int .i64 k, .int .i64 f, .int .i64 t, .int .u64 0, .int .u64 0, .slice none 0 0] 25 (0, 0)) := heap_alloc_new w _
    have hu1 : Up w (w.alloc (.cells #[.int .i64 k, .int .i64 f, .int .i64 t, .int .u64 0, .int .u64 0, .slice none 0 0] 25)) := (Up.refl w).alloc _
    have hr1 : Rd (w.alloc (.cells #[.int .i64 k, .int .i64 f, .int .i64 t, .int .u64 0, .int .u64 0, .slice none 0 0] 25)) (w.alloc (.cells #[.int .i64 k, .int .i64 f, .int .i64 t, .int .u64 0, .int .u64 0, .slice none 0 0] 25)).heap.size 5 none 0 (itcs []) := Rd.empty
    have HMB := Lib.hid (kB_none k f t)
    by_cases k1 : 1 ≤ k
    · by_cases k2 : k ≤ 10
      · by_cases f1 : 0 ≤ f
        · by_cases f2 : f ≤ 6
          · by_cases t1 : 0 ≤ t
            · by_cases t2 : t ≤ 6
              · rw [decide_eq_true ⟨k1, k2, f1, f2, t1, t2⟩] at HMB
                have p0 := blk_cell hb1 0
                have p1 := blk_cell hb1 1
                have p2 := blk_cell hb1 2
                have p3 := blk_cell hb1 3
                have p4 := blk_cell hb1 4
                have p5 := blk_cell hb1 5
                go_enter Try.func3, Try.ntmps3
                go_wp2_with fail
                generalize w.alloc (.cells #[.int .i64 k, .int .i64 f, .int .i64 t, .int .u64 0, .int .u64 0, .slice none 0 0] 25) = w1 at *
                generalize w.heap.size = g1 at hb1 p0 p1 p2 p3 p4 p5 ⊢
                clear p0 p1 p2 p3 p4 p5
                have HPE : Hid (mputE (k) f t 0 0 [] = 0) := by
                  show _ = _
                  unfold mputE; rw [HMB.out]; rfl
                have hsm : sameM (k) f t 0 0 [] (k) f t 0 0 [] = true := by unfold sameM; simp
                have HSM := Lib.hid hsm
                clear hsm
                refine (mput_any none 0 0 [] (k) f t 0 0 none 0 0 [] (w1) Rd.empty (by omega) hr1 (by omega)).mono ?_
                rintro e w4 ⟨P, pn, pc, rfl, hoP, hu4⟩
                rw [HPE.out]
                have hb4 := (hu4.block _ (Array.getElem?_eq_some_iff.1 hb1).1).trans hb1
                have hr4 := hr1.up hu4
                have hup4 := hu1.trans hu4
                clear hb1 hr1 hu1 hu4 hoP
                have p0 := blk_cell hb4 0
                have p1 := blk_cell hb4 1
                have p2 := blk_cell hb4 2
                have p3 := blk_cell hb4 3
                have p4 := blk_cell hb4 4
                have p5 := blk_cell hb4 5
                go_wp2_with fail
                clear p0 p1 p2 p3 p4 p5
                refine (mok_any (k) f t 0 0 none 0 0 [] w4 hr4 (by omega)).mono ?_
                rintro e w5 ⟨rfl, hu5⟩
                rw [HMB.out]
                have hb5 := (hu5.block _ (Array.getElem?_eq_some_iff.1 hb4).1).trans hb4
                have hr5 := hr4.up hu5
                have hup5 := hup4.trans hu5
                clear hb4 hr4 hup4 hu5
                have p0 := blk_cell hb5 0
                have p1 := blk_cell hb5 1
                have p2 := blk_cell hb5 2
                have p3 := blk_cell hb5 3
                have p4 := blk_cell hb5 4
                have p5 := blk_cell hb5 5
                go_wp2_with fail
                clear p0 p1 p2 p3 p4 p5
                refine (msame_any (k) f t 0 0 none 0 0 [] (k) f t 0 0 none 0 0 [] w5 hr5 hr5 (by omega) (by omega)).mono ?_
                rintro e w6 ⟨rfl, hu6⟩
                rw [HSM.out]
                go_wp2_with fail
                refine (awake20_any w6).mono ?_
                rintro e w7 ⟨rfl, hu7⟩
                go_wp2_with fail
                go_ret
                exact ⟨rfl, (hup5.trans hu6).trans hu7⟩
              · rw [decide_eq_false (by omega)] at HMB
                have p0 := blk_cell hb1 0
                have p1 := blk_cell hb1 1
                have p2 := blk_cell hb1 2
                have p3 := blk_cell hb1 3
                have p4 := blk_cell hb1 4
                have p5 := blk_cell hb1 5
                go_enter Try.func3, Try.ntmps3
                go_wp2_with fail
                generalize w.alloc (.cells #[.int .i64 k, .int .i64 f, .int .i64 t, .int .u64 0, .int .u64 0, .slice none 0 0] 25) = w1 at *
                generalize w.heap.size = g1 at hb1 p0 p1 p2 p3 p4 p5 ⊢
                clear p0 p1 p2 p3 p4 p5
                have HPE : Hid (mputE (k) f t 0 0 [] = 1) := by
                  show _ = _
                  unfold mputE; rw [HMB.out]; rfl
                have hsm : sameM (k) f t 0 0 [] (k) f t 0 0 [] = true := by unfold sameM; simp
                have HSM := Lib.hid hsm
                clear hsm
                refine (mput_any none 0 0 [] (k) f t 0 0 none 0 0 [] (w1) Rd.empty (by omega) hr1 (by omega)).mono ?_
                rintro e w4 ⟨P, pn, pc, rfl, hoP, hu4⟩
                rw [HPE.out]
                have hb4 := (hu4.block _ (Array.getElem?_eq_some_iff.1 hb1).1).trans hb1
                have hr4 := hr1.up hu4
                have hup4 := hu1.trans hu4
                clear hb1 hr1 hu1 hu4 hoP
                have p0 := blk_cell hb4 0
                have p1 := blk_cell hb4 1
                have p2 := blk_cell hb4 2
                have p3 := blk_cell hb4 3
                have p4 := blk_cell hb4 4
                have p5 := blk_cell hb4 5
                go_wp2_with fail
                clear p0 p1 p2 p3 p4 p5
                refine (mok_any (k) f t 0 0 none 0 0 [] w4 hr4 (by omega)).mono ?_
                rintro e w5 ⟨rfl, hu5⟩
                rw [HMB.out]
                have hb5 := (hu5.block _ (Array.getElem?_eq_some_iff.1 hb4).1).trans hb4
                have hr5 := hr4.up hu5
                have hup5 := hup4.trans hu5
                clear hb4 hr4 hup4 hu5
                have p0 := blk_cell hb5 0
                have p1 := blk_cell hb5 1
                have p2 := blk_cell hb5 2
                have p3 := blk_cell hb5 3
                have p4 := blk_cell hb5 4
                have p5 := blk_cell hb5 5
                go_wp2_with fail
                clear p0 p1 p2 p3 p4 p5
                refine (msame_any (k) f t 0 0 none 0 0 [] (k) f t 0 0 none 0 0 [] w5 hr5 hr5 (by omega) (by omega)).mono ?_
                rintro e w6 ⟨rfl, hu6⟩
                rw [HSM.out]
                go_wp2_with fail
                refine (awake20_any w6).mono ?_
                rintro e w7 ⟨rfl, hu7⟩
                go_wp2_with fail
                go_ret
                exact ⟨rfl, (hup5.trans hu6).trans hu7⟩
            · rw [decide_eq_false (by omega)] at HMB
              have p0 := blk_cell hb1 0
              have p1 := blk_cell hb1 1
              have p2 := blk_cell hb1 2
              have p3 := blk_cell hb1 3
              have p4 := blk_cell hb1 4
              have p5 := blk_cell hb1 5
              go_enter Try.func3, Try.ntmps3
              go_wp2_with fail
              generalize w.alloc (.cells #[.int .i64 k, .int .i64 f, .int .i64 t, .int .u64 0, .int .u64 0, .slice none 0 0] 25) = w1 at *
              generalize w.heap.size = g1 at hb1 p0 p1 p2 p3 p4 p5 ⊢
              clear p0 p1 p2 p3 p4 p5
              have HPE : Hid (mputE (k) f t 0 0 [] = 1) := by
                show _ = _
                unfold mputE; rw [HMB.out]; rfl
              have hsm : sameM (k) f t 0 0 [] (k) f t 0 0 [] = true := by unfold sameM; simp
              have HSM := Lib.hid hsm
              clear hsm
              refine (mput_any none 0 0 [] (k) f t 0 0 none 0 0 [] (w1) Rd.empty (by omega) hr1 (by omega)).mono ?_
              rintro e w4 ⟨P, pn, pc, rfl, hoP, hu4⟩
              rw [HPE.out]
              have hb4 := (hu4.block _ (Array.getElem?_eq_some_iff.1 hb1).1).trans hb1
              have hr4 := hr1.up hu4
              have hup4 := hu1.trans hu4
              clear hb1 hr1 hu1 hu4 hoP
              have p0 := blk_cell hb4 0
              have p1 := blk_cell hb4 1
              have p2 := blk_cell hb4 2
              have p3 := blk_cell hb4 3
              have p4 := blk_cell hb4 4
              have p5 := blk_cell hb4 5
              go_wp2_with fail
              clear p0 p1 p2 p3 p4 p5
              refine (mok_any (k) f t 0 0 none 0 0 [] w4 hr4 (by omega)).mono ?_
              rintro e w5 ⟨rfl, hu5⟩
              rw [HMB.out]
              have hb5 := (hu5.block _ (Array.getElem?_eq_some_iff.1 hb4).1).trans hb4
              have hr5 := hr4.up hu5
              have hup5 := hup4.trans hu5
              clear hb4 hr4 hup4 hu5
              have p0 := blk_cell hb5 0
              have p1 := blk_cell hb5 1
              have p2 := blk_cell hb5 2
              have p3 := blk_cell hb5 3
              have p4 := blk_cell hb5 4
              have p5 := blk_cell hb5 5
              go_wp2_with fail
              clear p0 p1 p2 p3 p4 p5
              refine (msame_any (k) f t 0 0 none 0 0 [] (k) f t 0 0 none 0 0 [] w5 hr5 hr5 (by omega) (by omega)).mono ?_
              rintro e w6 ⟨rfl, hu6⟩
              rw [HSM.out]
              go_wp2_with fail
              refine (awake20_any w6).mono ?_
              rintro e w7 ⟨rfl, hu7⟩
              go_wp2_with fail
              go_ret
              exact ⟨rfl, (hup5.trans hu6).trans hu7⟩
          · rw [decide_eq_false (by omega)] at HMB
            have p0 := blk_cell hb1 0
            have p1 := blk_cell hb1 1
            have p2 := blk_cell hb1 2
            have p3 := blk_cell hb1 3
            have p4 := blk_cell hb1 4
            have p5 := blk_cell hb1 5
            go_enter Try.func3, Try.ntmps3
            go_wp2_with fail
            generalize w.alloc (.cells #[.int .i64 k, .int .i64 f, .int .i64 t, .int .u64 0, .int .u64 0, .slice none 0 0] 25) = w1 at *
            generalize w.heap.size = g1 at hb1 p0 p1 p2 p3 p4 p5 ⊢
            clear p0 p1 p2 p3 p4 p5
            have HPE : Hid (mputE (k) f t 0 0 [] = 1) := by
              show _ = _
              unfold mputE; rw [HMB.out]; rfl
            have hsm : sameM (k) f t 0 0 [] (k) f t 0 0 [] = true := by unfold sameM; simp
            have HSM := Lib.hid hsm
            clear hsm
            refine (mput_any none 0 0 [] (k) f t 0 0 none 0 0 [] (w1) Rd.empty (by omega) hr1 (by omega)).mono ?_
            rintro e w4 ⟨P, pn, pc, rfl, hoP, hu4⟩
            rw [HPE.out]
            have hb4 := (hu4.block _ (Array.getElem?_eq_some_iff.1 hb1).1).trans hb1
            have hr4 := hr1.up hu4
            have hup4 := hu1.trans hu4
            clear hb1 hr1 hu1 hu4 hoP
            have p0 := blk_cell hb4 0
            have p1 := blk_cell hb4 1
            have p2 := blk_cell hb4 2
            have p3 := blk_cell hb4 3
            have p4 := blk_cell hb4 4
            have p5 := blk_cell hb4 5
            go_wp2_with fail
            clear p0 p1 p2 p3 p4 p5
            refine (mok_any (k) f t 0 0 none 0 0 [] w4 hr4 (by omega)).mono ?_
            rintro e w5 ⟨rfl, hu5⟩
            rw [HMB.out]
            have hb5 := (hu5.block _ (Array.getElem?_eq_some_iff.1 hb4).1).trans hb4
            have hr5 := hr4.up hu5
            have hup5 := hup4.trans hu5
            clear hb4 hr4 hup4 hu5
            have p0 := blk_cell hb5 0
            have p1 := blk_cell hb5 1
            have p2 := blk_cell hb5 2
            have p3 := blk_cell hb5 3
            have p4 := blk_cell hb5 4
            have p5 := blk_cell hb5 5
            go_wp2_with fail
            clear p0 p1 p2 p3 p4 p5
            refine (msame_any (k) f t 0 0 none 0 0 [] (k) f t 0 0 none 0 0 [] w5 hr5 hr5 (by omega) (by omega)).mono ?_
            rintro e w6 ⟨rfl, hu6⟩
            rw [HSM.out]
            go_wp2_with fail
            refine (awake20_any w6).mono ?_
            rintro e w7 ⟨rfl, hu7⟩
            go_wp2_with fail
            go_ret
            exact ⟨rfl, (hup5.trans hu6).trans hu7⟩
        · rw [decide_eq_false (by omega)] at HMB
          have p0 := blk_cell hb1 0
          have p1 := blk_cell hb1 1
          have p2 := blk_cell hb1 2
          have p3 := blk_cell hb1 3
          have p4 := blk_cell hb1 4
          have p5 := blk_cell hb1 5
          go_enter Try.func3, Try.ntmps3
          go_wp2_with fail
          generalize w.alloc (.cells #[.int .i64 k, .int .i64 f, .int .i64 t, .int .u64 0, .int .u64 0, .slice none 0 0] 25) = w1 at *
          generalize w.heap.size = g1 at hb1 p0 p1 p2 p3 p4 p5 ⊢
          clear p0 p1 p2 p3 p4 p5
          have HPE : Hid (mputE (k) f t 0 0 [] = 1) := by
            show _ = _
            unfold mputE; rw [HMB.out]; rfl
          have hsm : sameM (k) f t 0 0 [] (k) f t 0 0 [] = true := by unfold sameM; simp
          have HSM := Lib.hid hsm
          clear hsm
          refine (mput_any none 0 0 [] (k) f t 0 0 none 0 0 [] (w1) Rd.empty (by omega) hr1 (by omega)).mono ?_
          rintro e w4 ⟨P, pn, pc, rfl, hoP, hu4⟩
          rw [HPE.out]
          have hb4 := (hu4.block _ (Array.getElem?_eq_some_iff.1 hb1).1).trans hb1
          have hr4 := hr1.up hu4
          have hup4 := hu1.trans hu4
          clear hb1 hr1 hu1 hu4 hoP
          have p0 := blk_cell hb4 0
          have p1 := blk_cell hb4 1
          have p2 := blk_cell hb4 2
          have p3 := blk_cell hb4 3
          have p4 := blk_cell hb4 4
          have p5 := blk_cell hb4 5
          go_wp2_with fail
          clear p0 p1 p2 p3 p4 p5
          refine (mok_any (k) f t 0 0 none 0 0 [] w4 hr4 (by omega)).mono ?_
          rintro e w5 ⟨rfl, hu5⟩
          rw [HMB.out]
          have hb5 := (hu5.block _ (Array.getElem?_eq_some_iff.1 hb4).1).trans hb4
          have hr5 := hr4.up hu5
          have hup5 := hup4.trans hu5
          clear hb4 hr4 hup4 hu5
          have p0 := blk_cell hb5 0
          have p1 := blk_cell hb5 1
          have p2 := blk_cell hb5 2
          have p3 := blk_cell hb5 3
          have p4 := blk_cell hb5 4
          have p5 := blk_cell hb5 5
          go_wp2_with fail
          clear p0 p1 p2 p3 p4 p5
          refine (msame_any (k) f t 0 0 none 0 0 [] (k) f t 0 0 none 0 0 [] w5 hr5 hr5 (by omega) (by omega)).mono ?_
          rintro e w6 ⟨rfl, hu6⟩
          rw [HSM.out]
          go_wp2_with fail
          refine (awake20_any w6).mono ?_
          rintro e w7 ⟨rfl, hu7⟩
          go_wp2_with fail
          go_ret
          exact ⟨rfl, (hup5.trans hu6).trans hu7⟩
      · rw [decide_eq_false (by omega)] at HMB
        have p0 := blk_cell hb1 0
        have p1 := blk_cell hb1 1
        have p2 := blk_cell hb1 2
        have p3 := blk_cell hb1 3
        have p4 := blk_cell hb1 4
        have p5 := blk_cell hb1 5
        go_enter Try.func3, Try.ntmps3
        go_wp2_with fail
        generalize w.alloc (.cells #[.int .i64 k, .int .i64 f, .int .i64 t, .int .u64 0, .int .u64 0, .slice none 0 0] 25) = w1 at *
        generalize w.heap.size = g1 at hb1 p0 p1 p2 p3 p4 p5 ⊢
        clear p0 p1 p2 p3 p4 p5
        have HPE : Hid (mputE (k) f t 0 0 [] = 1) := by
          show _ = _
          unfold mputE; rw [HMB.out]; rfl
        have hsm : sameM (k) f t 0 0 [] (k) f t 0 0 [] = true := by unfold sameM; simp
        have HSM := Lib.hid hsm
        clear hsm
        refine (mput_any none 0 0 [] (k) f t 0 0 none 0 0 [] (w1) Rd.empty (by omega) hr1 (by omega)).mono ?_
        rintro e w4 ⟨P, pn, pc, rfl, hoP, hu4⟩
        rw [HPE.out]
        have hb4 := (hu4.block _ (Array.getElem?_eq_some_iff.1 hb1).1).trans hb1
        have hr4 := hr1.up hu4
        have hup4 := hu1.trans hu4
        clear hb1 hr1 hu1 hu4 hoP
        have p0 := blk_cell hb4 0
        have p1 := blk_cell hb4 1
        have p2 := blk_cell hb4 2
        have p3 := blk_cell hb4 3
        have p4 := blk_cell hb4 4
        have p5 := blk_cell hb4 5
        go_wp2_with fail
        clear p0 p1 p2 p3 p4 p5
        refine (mok_any (k) f t 0 0 none 0 0 [] w4 hr4 (by omega)).mono ?_
        rintro e w5 ⟨rfl, hu5⟩
        rw [HMB.out]
        have hb5 := (hu5.block _ (Array.getElem?_eq_some_iff.1 hb4).1).trans hb4
        have hr5 := hr4.up hu5
        have hup5 := hup4.trans hu5
        clear hb4 hr4 hup4 hu5
        have p0 := blk_cell hb5 0
        have p1 := blk_cell hb5 1
        have p2 := blk_cell hb5 2
        have p3 := blk_cell hb5 3
        have p4 := blk_cell hb5 4
        have p5 := blk_cell hb5 5
        go_wp2_with fail
        clear p0 p1 p2 p3 p4 p5
        refine (msame_any (k) f t 0 0 none 0 0 [] (k) f t 0 0 none 0 0 [] w5 hr5 hr5 (by omega) (by omega)).mono ?_
        rintro e w6 ⟨rfl, hu6⟩
        rw [HSM.out]
        go_wp2_with fail
        refine (awake20_any w6).mono ?_
        rintro e w7 ⟨rfl, hu7⟩
        go_wp2_with fail
        go_ret
        exact ⟨rfl, (hup5.trans hu6).trans hu7⟩
    · rw [decide_eq_false (by omega)] at HMB
      have p0 := blk_cell hb1 0
      have p1 := blk_cell hb1 1
      have p2 := blk_cell hb1 2
      have p3 := blk_cell hb1 3
      have p4 := blk_cell hb1 4
      have p5 := blk_cell hb1 5
      go_enter Try.func3, Try.ntmps3
      go_wp2_with fail
      generalize w.alloc (.cells #[.int .i64 k, .int .i64 f, .int .i64 t, .int .u64 0, .int .u64 0, .slice none 0 0] 25) = w1 at *
      generalize w.heap.size = g1 at hb1 p0 p1 p2 p3 p4 p5 ⊢
      clear p0 p1 p2 p3 p4 p5
      have HPE : Hid (mputE (k) f t 0 0 [] = 1) := by
        show _ = _
        unfold mputE; rw [HMB.out]; rfl
      have hsm : sameM (k) f t 0 0 [] (k) f t 0 0 [] = true := by unfold sameM; simp
      have HSM := Lib.hid hsm
      clear hsm
      refine (mput_any none 0 0 [] (k) f t 0 0 none 0 0 [] (w1) Rd.empty (by omega) hr1 (by omega)).mono ?_
      rintro e w4 ⟨P, pn, pc, rfl, hoP, hu4⟩
      rw [HPE.out]
      have hb4 := (hu4.block _ (Array.getElem?_eq_some_iff.1 hb1).1).trans hb1
      have hr4 := hr1.up hu4
      have hup4 := hu1.trans hu4
      clear hb1 hr1 hu1 hu4 hoP
      have p0 := blk_cell hb4 0
      have p1 := blk_cell hb4 1
      have p2 := blk_cell hb4 2
      have p3 := blk_cell hb4 3
      have p4 := blk_cell hb4 4
      have p5 := blk_cell hb4 5
      go_wp2_with fail
      clear p0 p1 p2 p3 p4 p5
      refine (mok_any (k) f t 0 0 none 0 0 [] w4 hr4 (by omega)).mono ?_
      rintro e w5 ⟨rfl, hu5⟩
      rw [HMB.out]
      have hb5 := (hu5.block _ (Array.getElem?_eq_some_iff.1 hb4).1).trans hb4
      have hr5 := hr4.up hu5
      have hup5 := hup4.trans hu5
      clear hb4 hr4 hup4 hu5
      have p0 := blk_cell hb5 0
      have p1 := blk_cell hb5 1
      have p2 := blk_cell hb5 2
      have p3 := blk_cell hb5 3
      have p4 := blk_cell hb5 4
      have p5 := blk_cell hb5 5
      go_wp2_with fail
      clear p0 p1 p2 p3 p4 p5
      refine (msame_any (k) f t 0 0 none 0 0 [] (k) f t 0 0 none 0 0 [] w5 hr5 hr5 (by omega) (by omega)).mono ?_
      rintro e w6 ⟨rfl, hu6⟩
      rw [HSM.out]
      go_wp2_with fail
      refine (awake20_any w6).mono ?_
      rintro e w7 ⟨rfl, hu7⟩
      go_wp2_with fail
      go_ret
      exact ⟨rfl, (hup5.trans hu6).trans hu7⟩
  · obtain ⟨w1, hw1⟩ : ∃ w1, w1 = (w.alloc (.cells #[.int .i64 k, .int .i64 f, .int .i64 t, .int .u64 0, .int .u64 0, .slice (some ⟨w.heap.size + 1, 0, none⟩) 1 1] 25)).alloc (.cells #[.int .i64 1, .int .i64 2, .int .u64 0, .int .u64 5, .int .i64 0] 27) := ⟨_, rfl⟩
    have hb1 : w1.heap[w.heap.size]? = some (.cells #[.int .i64 k, .int .i64 f, .int .i64 t, .int .u64 0, .int .u64 0, .slice (some ⟨w.heap.size + 1, 0, none⟩) 1 1] 25 (0, 0)) := by
      rw [hw1, Below.heap_alloc _ _ _ (by simp)]; exact heap_alloc_new w _
    have hu1 : Up w w1 := by rw [hw1]; exact ((Up.refl w).alloc _).alloc _
    have hr1 : Rd w1 w1.heap.size 5 (some ⟨w.heap.size + 1, 0, none⟩) 1 (itcs [itK]) := by
      rw [hw1]
      exact Rd.ilit_at (w.alloc (.cells #[.int .i64 k, .int .i64 f, .int .i64 t, .int .u64 0, .int .u64 0, .slice (some ⟨w.heap.size + 1, 0, none⟩) 1 1] 25)) [itK] #[.int .i64 1, .int .i64 2, .int .u64 0, .int .u64 5, .int .i64 0] 27 (World.size_alloc w _) itK_c.symm
    have HW := Lib.hid hw1
    clear hw1
    have HMB := Lib.hid (kB_one k f t)
    by_cases g1 : k = 1
    · subst g1
      by_cases f1 : 0 ≤ f
      · by_cases f2 : f ≤ 6
        · by_cases t1 : 0 ≤ t
          · by_cases t2 : t ≤ 6
            · rw [decide_eq_true (by omega)] at HMB
              go_enter Try.func3, Try.ntmps3
              go_wp2_with fail
              rw [← HW.out]
              clear HW
              generalize w.heap.size + 1 = g2 at hb1 hr1 ⊢
              generalize w.heap.size = g1 at hb1 ⊢
              have HPE : Hid (mputE (1) f t 0 0 [itK] = 0) := by
                show _ = _
                unfold mputE; rw [HMB.out]; rfl
              have hsm : sameM (1) f t 0 0 [itK] (1) f t 0 0 [itK] = true := by unfold sameM; simp
              have HSM := Lib.hid hsm
              clear hsm
              refine (mput_any none 0 0 [] (1) f t 0 0 (some ⟨g2, 0, none⟩) 1 1 [itK] (w1) Rd.empty (by omega) hr1 (by omega)).mono ?_
              rintro e w4 ⟨P, pn, pc, rfl, hoP, hu4⟩
              rw [HPE.out]
              have hb4 := (hu4.block _ (Array.getElem?_eq_some_iff.1 hb1).1).trans hb1
              have hr4 := hr1.up hu4
              have hup4 := hu1.trans hu4
              clear hb1 hr1 hu1 hu4 hoP
              have p0 := blk_cell hb4 0
              have p1 := blk_cell hb4 1
              have p2 := blk_cell hb4 2
              have p3 := blk_cell hb4 3
              have p4 := blk_cell hb4 4
              have p5 := blk_cell hb4 5
              go_wp2_with fail
              clear p0 p1 p2 p3 p4 p5
              refine (mok_any (1) f t 0 0 (some ⟨g2, 0, none⟩) 1 1 [itK] w4 hr4 (by omega)).mono ?_
              rintro e w5 ⟨rfl, hu5⟩
              rw [HMB.out]
              have hb5 := (hu5.block _ (Array.getElem?_eq_some_iff.1 hb4).1).trans hb4
              have hr5 := hr4.up hu5
              have hup5 := hup4.trans hu5
              clear hb4 hr4 hup4 hu5
              have p0 := blk_cell hb5 0
              have p1 := blk_cell hb5 1
              have p2 := blk_cell hb5 2
              have p3 := blk_cell hb5 3
              have p4 := blk_cell hb5 4
              have p5 := blk_cell hb5 5
              go_wp2_with fail
              clear p0 p1 p2 p3 p4 p5
              refine (msame_any (1) f t 0 0 (some ⟨g2, 0, none⟩) 1 1 [itK] (1) f t 0 0 (some ⟨g2, 0, none⟩) 1 1 [itK] w5 hr5 hr5 (by omega) (by omega)).mono ?_
              rintro e w6 ⟨rfl, hu6⟩
              rw [HSM.out]
              go_wp2_with fail
              refine (awake20_any w6).mono ?_
              rintro e w7 ⟨rfl, hu7⟩
              go_wp2_with fail
              go_ret
              exact ⟨rfl, (hup5.trans hu6).trans hu7⟩
            · rw [decide_eq_false (by omega)] at HMB
              go_enter Try.func3, Try.ntmps3
              go_wp2_with fail
              rw [← HW.out]
              clear HW
              generalize w.heap.size + 1 = g2 at hb1 hr1 ⊢
              generalize w.heap.size = g1 at hb1 ⊢
              have HPE : Hid (mputE (1) f t 0 0 [itK] = 1) := by
                show _ = _
                unfold mputE; rw [HMB.out]; rfl
              have hsm : sameM (1) f t 0 0 [itK] (1) f t 0 0 [itK] = true := by unfold sameM; simp
              have HSM := Lib.hid hsm
              clear hsm
              refine (mput_any none 0 0 [] (1) f t 0 0 (some ⟨g2, 0, none⟩) 1 1 [itK] (w1) Rd.empty (by omega) hr1 (by omega)).mono ?_
              rintro e w4 ⟨P, pn, pc, rfl, hoP, hu4⟩
              rw [HPE.out]
              have hb4 := (hu4.block _ (Array.getElem?_eq_some_iff.1 hb1).1).trans hb1
              have hr4 := hr1.up hu4
              have hup4 := hu1.trans hu4
              clear hb1 hr1 hu1 hu4 hoP
              have p0 := blk_cell hb4 0
              have p1 := blk_cell hb4 1
              have p2 := blk_cell hb4 2
              have p3 := blk_cell hb4 3
              have p4 := blk_cell hb4 4
              have p5 := blk_cell hb4 5
              go_wp2_with fail
              clear p0 p1 p2 p3 p4 p5
              refine (mok_any (1) f t 0 0 (some ⟨g2, 0, none⟩) 1 1 [itK] w4 hr4 (by omega)).mono ?_
              rintro e w5 ⟨rfl, hu5⟩
              rw [HMB.out]
              have hb5 := (hu5.block _ (Array.getElem?_eq_some_iff.1 hb4).1).trans hb4
              have hr5 := hr4.up hu5
              have hup5 := hup4.trans hu5
              clear hb4 hr4 hup4 hu5
              have p0 := blk_cell hb5 0
              have p1 := blk_cell hb5 1
              have p2 := blk_cell hb5 2
              have p3 := blk_cell hb5 3
              have p4 := blk_cell hb5 4
              have p5 := blk_cell hb5 5
              go_wp2_with fail
              clear p0 p1 p2 p3 p4 p5
              refine (msame_any (1) f t 0 0 (some ⟨g2, 0, none⟩) 1 1 [itK] (1) f t 0 0 (some ⟨g2, 0, none⟩) 1 1 [itK] w5 hr5 hr5 (by omega) (by omega)).mono ?_
              rintro e w6 ⟨rfl, hu6⟩
              rw [HSM.out]
              go_wp2_with fail
              refine (awake20_any w6).mono ?_
              rintro e w7 ⟨rfl, hu7⟩
              go_wp2_with fail
              go_ret
              exact ⟨rfl, (hup5.trans hu6).trans hu7⟩
          · rw [decide_eq_false (by omega)] at HMB
            go_enter Try.func3, Try.ntmps3
            go_wp2_with fail
            rw [← HW.out]
            clear HW
            generalize w.heap.size + 1 = g2 at hb1 hr1 ⊢
            generalize w.heap.size = g1 at hb1 ⊢
            have HPE : Hid (mputE (1) f t 0 0 [itK] = 1) := by
              show _ = _
              unfold mputE; rw [HMB.out]; rfl
            have hsm : sameM (1) f t 0 0 [itK] (1) f t 0 0 [itK] = true := by unfold sameM; simp
            have HSM := Lib.hid hsm
            clear hsm
            refine (mput_any none 0 0 [] (1) f t 0 0 (some ⟨g2, 0, none⟩) 1 1 [itK] (w1) Rd.empty (by omega) hr1 (by omega)).mono ?_
            rintro e w4 ⟨P, pn, pc, rfl, hoP, hu4⟩
            rw [HPE.out]
            have hb4 := (hu4.block _ (Array.getElem?_eq_some_iff.1 hb1).1).trans hb1
            have hr4 := hr1.up hu4
            have hup4 := hu1.trans hu4
            clear hb1 hr1 hu1 hu4 hoP
            have p0 := blk_cell hb4 0
            have p1 := blk_cell hb4 1
            have p2 := blk_cell hb4 2
            have p3 := blk_cell hb4 3
            have p4 := blk_cell hb4 4
            have p5 := blk_cell hb4 5
            go_wp2_with fail
            clear p0 p1 p2 p3 p4 p5
            refine (mok_any (1) f t 0 0 (some ⟨g2, 0, none⟩) 1 1 [itK] w4 hr4 (by omega)).mono ?_
            rintro e w5 ⟨rfl, hu5⟩
            rw [HMB.out]
            have hb5 := (hu5.block _ (Array.getElem?_eq_some_iff.1 hb4).1).trans hb4
            have hr5 := hr4.up hu5
            have hup5 := hup4.trans hu5
            clear hb4 hr4 hup4 hu5
            have p0 := blk_cell hb5 0
            have p1 := blk_cell hb5 1
            have p2 := blk_cell hb5 2
            have p3 := blk_cell hb5 3
            have p4 := blk_cell hb5 4
            have p5 := blk_cell hb5 5
            go_wp2_with fail
            clear p0 p1 p2 p3 p4 p5
            refine (msame_any (1) f t 0 0 (some ⟨g2, 0, none⟩) 1 1 [itK] (1) f t 0 0 (some ⟨g2, 0, none⟩) 1 1 [itK] w5 hr5 hr5 (by omega) (by omega)).mono ?_
            rintro e w6 ⟨rfl, hu6⟩
            rw [HSM.out]
            go_wp2_with fail
            refine (awake20_any w6).mono ?_
            rintro e w7 ⟨rfl, hu7⟩
            go_wp2_with fail
            go_ret
            exact ⟨rfl, (hup5.trans hu6).trans hu7⟩
        · rw [decide_eq_false (by omega)] at HMB
          go_enter Try.func3, Try.ntmps3
          go_wp2_with fail
          rw [← HW.out]
          clear HW
          generalize w.heap.size + 1 = g2 at hb1 hr1 ⊢
          generalize w.heap.size = g1 at hb1 ⊢
          have HPE : Hid (mputE (1) f t 0 0 [itK] = 1) := by
            show _ = _
            unfold mputE; rw [HMB.out]; rfl
          have hsm : sameM (1) f t 0 0 [itK] (1) f t 0 0 [itK] = true := by unfold sameM; simp
          have HSM := Lib.hid hsm
          clear hsm
          refine (mput_any none 0 0 [] (1) f t 0 0 (some ⟨g2, 0, none⟩) 1 1 [itK] (w1) Rd.empty (by omega) hr1 (by omega)).mono ?_
          rintro e w4 ⟨P, pn, pc, rfl, hoP, hu4⟩
          rw [HPE.out]
          have hb4 := (hu4.block _ (Array.getElem?_eq_some_iff.1 hb1).1).trans hb1
          have hr4 := hr1.up hu4
          have hup4 := hu1.trans hu4
          clear hb1 hr1 hu1 hu4 hoP
          have p0 := blk_cell hb4 0
          have p1 := blk_cell hb4 1
          have p2 := blk_cell hb4 2
          have p3 := blk_cell hb4 3
          have p4 := blk_cell hb4 4
          have p5 := blk_cell hb4 5
          go_wp2_with fail
          clear p0 p1 p2 p3 p4 p5
          refine (mok_any (1) f t 0 0 (some ⟨g2, 0, none⟩) 1 1 [itK] w4 hr4 (by omega)).mono ?_
          rintro e w5 ⟨rfl, hu5⟩
          rw [HMB.out]
          have hb5 := (hu5.block _ (Array.getElem?_eq_some_iff.1 hb4).1).trans hb4
          have hr5 := hr4.up hu5
          have hup5 := hup4.trans hu5
          clear hb4 hr4 hup4 hu5
          have p0 := blk_cell hb5 0
          have p1 := blk_cell hb5 1
          have p2 := blk_cell hb5 2
          have p3 := blk_cell hb5 3
          have p4 := blk_cell hb5 4
          have p5 := blk_cell hb5 5
          go_wp2_with fail
          clear p0 p1 p2 p3 p4 p5
          refine (msame_any (1) f t 0 0 (some ⟨g2, 0, none⟩) 1 1 [itK] (1) f t 0 0 (some ⟨g2, 0, none⟩) 1 1 [itK] w5 hr5 hr5 (by omega) (by omega)).mono ?_
          rintro e w6 ⟨rfl, hu6⟩
          rw [HSM.out]
          go_wp2_with fail
          refine (awake20_any w6).mono ?_
          rintro e w7 ⟨rfl, hu7⟩
          go_wp2_with fail
          go_ret
          exact ⟨rfl, (hup5.trans hu6).trans hu7⟩
      · rw [decide_eq_false (by omega)] at HMB
        go_enter Try.func3, Try.ntmps3
        go_wp2_with fail
        rw [← HW.out]
        clear HW
        generalize w.heap.size + 1 = g2 at hb1 hr1 ⊢
        generalize w.heap.size = g1 at hb1 ⊢
        have HPE : Hid (mputE (1) f t 0 0 [itK] = 1) := by
          show _ = _
          unfold mputE; rw [HMB.out]; rfl
        have hsm : sameM (1) f t 0 0 [itK] (1) f t 0 0 [itK] = true := by unfold sameM; simp
        have HSM := Lib.hid hsm
        clear hsm
        refine (mput_any none 0 0 [] (1) f t 0 0 (some ⟨g2, 0, none⟩) 1 1 [itK] (w1) Rd.empty (by omega) hr1 (by omega)).mono ?_
        rintro e w4 ⟨P, pn, pc, rfl, hoP, hu4⟩
        rw [HPE.out]
        have hb4 := (hu4.block _ (Array.getElem?_eq_some_iff.1 hb1).1).trans hb1
        have hr4 := hr1.up hu4
        have hup4 := hu1.trans hu4
        clear hb1 hr1 hu1 hu4 hoP
        have p0 := blk_cell hb4 0
        have p1 := blk_cell hb4 1
        have p2 := blk_cell hb4 2
        have p3 := blk_cell hb4 3
        have p4 := blk_cell hb4 4
        have p5 := blk_cell hb4 5
        go_wp2_with fail
        clear p0 p1 p2 p3 p4 p5
        refine (mok_any (1) f t 0 0 (some ⟨g2, 0, none⟩) 1 1 [itK] w4 hr4 (by omega)).mono ?_
        rintro e w5 ⟨rfl, hu5⟩
        rw [HMB.out]
        have hb5 := (hu5.block _ (Array.getElem?_eq_some_iff.1 hb4).1).trans hb4
        have hr5 := hr4.up hu5
        have hup5 := hup4.trans hu5
        clear hb4 hr4 hup4 hu5
        have p0 := blk_cell hb5 0
        have p1 := blk_cell hb5 1
        have p2 := blk_cell hb5 2
        have p3 := blk_cell hb5 3
        have p4 := blk_cell hb5 4
        have p5 := blk_cell hb5 5
        go_wp2_with fail
        clear p0 p1 p2 p3 p4 p5
        refine (msame_any (1) f t 0 0 (some ⟨g2, 0, none⟩) 1 1 [itK] (1) f t 0 0 (some ⟨g2, 0, none⟩) 1 1 [itK] w5 hr5 hr5 (by omega) (by omega)).mono ?_
        rintro e w6 ⟨rfl, hu6⟩
        rw [HSM.out]
        go_wp2_with fail
        refine (awake20_any w6).mono ?_
        rintro e w7 ⟨rfl, hu7⟩
        go_wp2_with fail
        go_ret
        exact ⟨rfl, (hup5.trans hu6).trans hu7⟩
    · by_cases g2 : k = 5
      · subst g2
        by_cases f1 : 0 ≤ f
        · by_cases f2 : f ≤ 6
          · by_cases t1 : 0 ≤ t
            · by_cases t2 : t ≤ 6
              · rw [decide_eq_true (by omega)] at HMB
                go_enter Try.func3, Try.ntmps3
                go_wp2_with fail
                rw [← HW.out]
                clear HW
                generalize w.heap.size + 1 = g2 at hb1 hr1 ⊢
                generalize w.heap.size = g1 at hb1 ⊢
                have HPE : Hid (mputE (5) f t 0 0 [itK] = 0) := by
                  show _ = _
                  unfold mputE; rw [HMB.out]; rfl
                have hsm : sameM (5) f t 0 0 [itK] (5) f t 0 0 [itK] = true := by unfold sameM; simp
                have HSM := Lib.hid hsm
                clear hsm
                refine (mput_any none 0 0 [] (5) f t 0 0 (some ⟨g2, 0, none⟩) 1 1 [itK] (w1) Rd.empty (by omega) hr1 (by omega)).mono ?_
                rintro e w4 ⟨P, pn, pc, rfl, hoP, hu4⟩
                rw [HPE.out]
                have hb4 := (hu4.block _ (Array.getElem?_eq_some_iff.1 hb1).1).trans hb1
                have hr4 := hr1.up hu4
                have hup4 := hu1.trans hu4
                clear hb1 hr1 hu1 hu4 hoP
                have p0 := blk_cell hb4 0
                have p1 := blk_cell hb4 1
                have p2 := blk_cell hb4 2
                have p3 := blk_cell hb4 3
                have p4 := blk_cell hb4 4
                have p5 := blk_cell hb4 5
                go_wp2_with fail
                clear p0 p1 p2 p3 p4 p5
                refine (mok_any (5) f t 0 0 (some ⟨g2, 0, none⟩) 1 1 [itK] w4 hr4 (by omega)).mono ?_
                rintro e w5 ⟨rfl, hu5⟩
                rw [HMB.out]
                have hb5 := (hu5.block _ (Array.getElem?_eq_some_iff.1 hb4).1).trans hb4
                have hr5 := hr4.up hu5
                have hup5 := hup4.trans hu5
                clear hb4 hr4 hup4 hu5
                have p0 := blk_cell hb5 0
                have p1 := blk_cell hb5 1
                have p2 := blk_cell hb5 2
                have p3 := blk_cell hb5 3
                have p4 := blk_cell hb5 4
                have p5 := blk_cell hb5 5
                go_wp2_with fail
                clear p0 p1 p2 p3 p4 p5
                refine (msame_any (5) f t 0 0 (some ⟨g2, 0, none⟩) 1 1 [itK] (5) f t 0 0 (some ⟨g2, 0, none⟩) 1 1 [itK] w5 hr5 hr5 (by omega) (by omega)).mono ?_
                rintro e w6 ⟨rfl, hu6⟩
                rw [HSM.out]
                go_wp2_with fail
                refine (awake20_any w6).mono ?_
                rintro e w7 ⟨rfl, hu7⟩
                go_wp2_with fail
                go_ret
                exact ⟨rfl, (hup5.trans hu6).trans hu7⟩
              · rw [decide_eq_false (by omega)] at HMB
                go_enter Try.func3, Try.ntmps3
                go_wp2_with fail
                rw [← HW.out]
                clear HW
                generalize w.heap.size + 1 = g2 at hb1 hr1 ⊢
                generalize w.heap.size = g1 at hb1 ⊢
                have HPE : Hid (mputE (5) f t 0 0 [itK] = 1) := by
                  show _ = _
                  unfold mputE; rw [HMB.out]; rfl
                have hsm : sameM (5) f t 0 0 [itK] (5) f t 0 0 [itK] = true := by unfold sameM; simp
                have HSM := Lib.hid hsm
                clear hsm
                refine (mput_any none 0 0 [] (5) f t 0 0 (some ⟨g2, 0, none⟩) 1 1 [itK] (w1) Rd.empty (by omega) hr1 (by omega)).mono ?_
                rintro e w4 ⟨P, pn, pc, rfl, hoP, hu4⟩
                rw [HPE.out]
                have hb4 := (hu4.block _ (Array.getElem?_eq_some_iff.1 hb1).1).trans hb1
                have hr4 := hr1.up hu4
                have hup4 := hu1.trans hu4
                clear hb1 hr1 hu1 hu4 hoP
                have p0 := blk_cell hb4 0
                have p1 := blk_cell hb4 1
                have p2 := blk_cell hb4 2
                have p3 := blk_cell hb4 3
                have p4 := blk_cell hb4 4
                have p5 := blk_cell hb4 5
                go_wp2_with fail
                clear p0 p1 p2 p3 p4 p5
                refine (mok_any (5) f t 0 0 (some ⟨g2, 0, none⟩) 1 1 [itK] w4 hr4 (by omega)).mono ?_
                rintro e w5 ⟨rfl, hu5⟩
                rw [HMB.out]
                have hb5 := (hu5.block _ (Array.getElem?_eq_some_iff.1 hb4).1).trans hb4
                have hr5 := hr4.up hu5
                have hup5 := hup4.trans hu5
                clear hb4 hr4 hup4 hu5
                have p0 := blk_cell hb5 0
                have p1 := blk_cell hb5 1
                have p2 := blk_cell hb5 2
                have p3 := blk_cell hb5 3
                have p4 := blk_cell hb5 4
                have p5 := blk_cell hb5 5
                go_wp2_with fail
                clear p0 p1 p2 p3 p4 p5
                refine (msame_any (5) f t 0 0 (some ⟨g2, 0, none⟩) 1 1 [itK] (5) f t 0 0 (some ⟨g2, 0, none⟩) 1 1 [itK] w5 hr5 hr5 (by omega) (by omega)).mono ?_
                rintro e w6 ⟨rfl, hu6⟩
                rw [HSM.out]
                go_wp2_with fail
                refine (awake20_any w6).mono ?_
                rintro e w7 ⟨rfl, hu7⟩
                go_wp2_with fail
                go_ret
                exact ⟨rfl, (hup5.trans hu6).trans hu7⟩
            · rw [decide_eq_false (by omega)] at HMB
              go_enter Try.func3, Try.ntmps3
              go_wp2_with fail
              rw [← HW.out]
              clear HW
              generalize w.heap.size + 1 = g2 at hb1 hr1 ⊢
              generalize w.heap.size = g1 at hb1 ⊢
              have HPE : Hid (mputE (5) f t 0 0 [itK] = 1) := by
                show _ = _
                unfold mputE; rw [HMB.out]; rfl
              have hsm : sameM (5) f t 0 0 [itK] (5) f t 0 0 [itK] = true := by unfold sameM; simp
              have HSM := Lib.hid hsm
              clear hsm
              refine (mput_any none 0 0 [] (5) f t 0 0 (some ⟨g2, 0, none⟩) 1 1 [itK] (w1) Rd.empty (by omega) hr1 (by omega)).mono ?_
              rintro e w4 ⟨P, pn, pc, rfl, hoP, hu4⟩
              rw [HPE.out]
              have hb4 := (hu4.block _ (Array.getElem?_eq_some_iff.1 hb1).1).trans hb1
              have hr4 := hr1.up hu4
              have hup4 := hu1.trans hu4
              clear hb1 hr1 hu1 hu4 hoP
              have p0 := blk_cell hb4 0
              have p1 := blk_cell hb4 1
              have p2 := blk_cell hb4 2
              have p3 := blk_cell hb4 3
              have p4 := blk_cell hb4 4
              have p5 := blk_cell hb4 5
              go_wp2_with fail
              clear p0 p1 p2 p3 p4 p5
              refine (mok_any (5) f t 0 0 (some ⟨g2, 0, none⟩) 1 1 [itK] w4 hr4 (by omega)).mono ?_
              rintro e w5 ⟨rfl, hu5⟩
              rw [HMB.out]
              have hb5 := (hu5.block _ (Array.getElem?_eq_some_iff.1 hb4).1).trans hb4
              have hr5 := hr4.up hu5
              have hup5 := hup4.trans hu5
              clear hb4 hr4 hup4 hu5
              have p0 := blk_cell hb5 0
              have p1 := blk_cell hb5 1
              have p2 := blk_cell hb5 2
              have p3 := blk_cell hb5 3
              have p4 := blk_cell hb5 4
              have p5 := blk_cell hb5 5
              go_wp2_with fail
              clear p0 p1 p2 p3 p4 p5
              refine (msame_any (5) f t 0 0 (some ⟨g2, 0, none⟩) 1 1 [itK] (5) f t 0 0 (some ⟨g2, 0, none⟩) 1 1 [itK] w5 hr5 hr5 (by omega) (by omega)).mono ?_
              rintro e w6 ⟨rfl, hu6⟩
              rw [HSM.out]
              go_wp2_with fail
              refine (awake20_any w6).mono ?_
              rintro e w7 ⟨rfl, hu7⟩
              go_wp2_with fail
              go_ret
              exact ⟨rfl, (hup5.trans hu6).trans hu7⟩
          · rw [decide_eq_false (by omega)] at HMB
            go_enter Try.func3, Try.ntmps3
            go_wp2_with fail
            rw [← HW.out]
            clear HW
            generalize w.heap.size + 1 = g2 at hb1 hr1 ⊢
            generalize w.heap.size = g1 at hb1 ⊢
            have HPE : Hid (mputE (5) f t 0 0 [itK] = 1) := by
              show _ = _
              unfold mputE; rw [HMB.out]; rfl
            have hsm : sameM (5) f t 0 0 [itK] (5) f t 0 0 [itK] = true := by unfold sameM; simp
            have HSM := Lib.hid hsm
            clear hsm
            refine (mput_any none 0 0 [] (5) f t 0 0 (some ⟨g2, 0, none⟩) 1 1 [itK] (w1) Rd.empty (by omega) hr1 (by omega)).mono ?_
            rintro e w4 ⟨P, pn, pc, rfl, hoP, hu4⟩
            rw [HPE.out]
            have hb4 := (hu4.block _ (Array.getElem?_eq_some_iff.1 hb1).1).trans hb1
            have hr4 := hr1.up hu4
            have hup4 := hu1.trans hu4
            clear hb1 hr1 hu1 hu4 hoP
            have p0 := blk_cell hb4 0
            have p1 := blk_cell hb4 1
            have p2 := blk_cell hb4 2
            have p3 := blk_cell hb4 3
            have p4 := blk_cell hb4 4
            have p5 := blk_cell hb4 5
            go_wp2_with fail
            clear p0 p1 p2 p3 p4 p5
            refine (mok_any (5) f t 0 0 (some ⟨g2, 0, none⟩) 1 1 [itK] w4 hr4 (by omega)).mono ?_
            rintro e w5 ⟨rfl, hu5⟩
            rw [HMB.out]
            have hb5 := (hu5.block _ (Array.getElem?_eq_some_iff.1 hb4).1).trans hb4
            have hr5 := hr4.up hu5
            have hup5 := hup4.trans hu5
            clear hb4 hr4 hup4 hu5
            have p0 := blk_cell hb5 0
            have p1 := blk_cell hb5 1
            have p2 := blk_cell hb5 2
            have p3 := blk_cell hb5 3
            have p4 := blk_cell hb5 4
            have p5 := blk_cell hb5 5
            go_wp2_with fail
            clear p0 p1 p2 p3 p4 p5
            refine (msame_any (5) f t 0 0 (some ⟨g2, 0, none⟩) 1 1 [itK] (5) f t 0 0 (some ⟨g2, 0, none⟩) 1 1 [itK] w5 hr5 hr5 (by omega) (by omega)).mono ?_
            rintro e w6 ⟨rfl, hu6⟩
            rw [HSM.out]
            go_wp2_with fail
            refine (awake20_any w6).mono ?_
            rintro e w7 ⟨rfl, hu7⟩
            go_wp2_with fail
            go_ret
            exact ⟨rfl, (hup5.trans hu6).trans hu7⟩
        · rw [decide_eq_false (by omega)] at HMB
          go_enter Try.func3, Try.ntmps3
          go_wp2_with fail
          rw [← HW.out]
          clear HW
          generalize w.heap.size + 1 = g2 at hb1 hr1 ⊢
          generalize w.heap.size = g1 at hb1 ⊢
          have HPE : Hid (mputE (5) f t 0 0 [itK] = 1) := by
            show _ = _
            unfold mputE; rw [HMB.out]; rfl
          have hsm : sameM (5) f t 0 0 [itK] (5) f t 0 0 [itK] = true := by unfold sameM; simp
          have HSM := Lib.hid hsm
          clear hsm
          refine (mput_any none 0 0 [] (5) f t 0 0 (some ⟨g2, 0, none⟩) 1 1 [itK] (w1) Rd.empty (by omega) hr1 (by omega)).mono ?_
          rintro e w4 ⟨P, pn, pc, rfl, hoP, hu4⟩
          rw [HPE.out]
          have hb4 := (hu4.block _ (Array.getElem?_eq_some_iff.1 hb1).1).trans hb1
          have hr4 := hr1.up hu4
          have hup4 := hu1.trans hu4
          clear hb1 hr1 hu1 hu4 hoP
          have p0 := blk_cell hb4 0
          have p1 := blk_cell hb4 1
          have p2 := blk_cell hb4 2
          have p3 := blk_cell hb4 3
          have p4 := blk_cell hb4 4
          have p5 := blk_cell hb4 5
          go_wp2_with fail
          clear p0 p1 p2 p3 p4 p5
          refine (mok_any (5) f t 0 0 (some ⟨g2, 0, none⟩) 1 1 [itK] w4 hr4 (by omega)).mono ?_
          rintro e w5 ⟨rfl, hu5⟩
          rw [HMB.out]
          have hb5 := (hu5.block _ (Array.getElem?_eq_some_iff.1 hb4).1).trans hb4
          have hr5 := hr4.up hu5
          have hup5 := hup4.trans hu5
          clear hb4 hr4 hup4 hu5
          have p0 := blk_cell hb5 0
          have p1 := blk_cell hb5 1
          have p2 := blk_cell hb5 2
          have p3 := blk_cell hb5 3
          have p4 := blk_cell hb5 4
          have p5 := blk_cell hb5 5
          go_wp2_with fail
          clear p0 p1 p2 p3 p4 p5
          refine (msame_any (5) f t 0 0 (some ⟨g2, 0, none⟩) 1 1 [itK] (5) f t 0 0 (some ⟨g2, 0, none⟩) 1 1 [itK] w5 hr5 hr5 (by omega) (by omega)).mono ?_
          rintro e w6 ⟨rfl, hu6⟩
          rw [HSM.out]
          go_wp2_with fail
          refine (awake20_any w6).mono ?_
          rintro e w7 ⟨rfl, hu7⟩
          go_wp2_with fail
          go_ret
          exact ⟨rfl, (hup5.trans hu6).trans hu7⟩
      · by_cases g3 : k = 7
        · subst g3
          by_cases f1 : 0 ≤ f
          · by_cases f2 : f ≤ 6
            · by_cases t1 : 0 ≤ t
              · by_cases t2 : t ≤ 6
                · rw [decide_eq_true (by omega)] at HMB
                  go_enter Try.func3, Try.ntmps3
                  go_wp2_with fail
                  rw [← HW.out]
                  clear HW
                  generalize w.heap.size + 1 = g2 at hb1 hr1 ⊢
                  generalize w.heap.size = g1 at hb1 ⊢
                  have HPE : Hid (mputE (7) f t 0 0 [itK] = 0) := by
                    show _ = _
                    unfold mputE; rw [HMB.out]; rfl
                  have hsm : sameM (7) f t 0 0 [itK] (7) f t 0 0 [itK] = true := by unfold sameM; simp
                  have HSM := Lib.hid hsm
                  clear hsm
                  refine (mput_any none 0 0 [] (7) f t 0 0 (some ⟨g2, 0, none⟩) 1 1 [itK] (w1) Rd.empty (by omega) hr1 (by omega)).mono ?_
                  rintro e w4 ⟨P, pn, pc, rfl, hoP, hu4⟩
                  rw [HPE.out]
                  have hb4 := (hu4.block _ (Array.getElem?_eq_some_iff.1 hb1).1).trans hb1
                  have hr4 := hr1.up hu4
                  have hup4 := hu1.trans hu4
                  clear hb1 hr1 hu1 hu4 hoP
                  have p0 := blk_cell hb4 0
                  have p1 := blk_cell hb4 1
                  have p2 := blk_cell hb4 2
                  have p3 := blk_cell hb4 3
                  have p4 := blk_cell hb4 4
                  have p5 := blk_cell hb4 5
                  go_wp2_with fail
                  clear p0 p1 p2 p3 p4 p5
                  refine (mok_any (7) f t 0 0 (some ⟨g2, 0, none⟩) 1 1 [itK] w4 hr4 (by omega)).mono ?_
                  rintro e w5 ⟨rfl, hu5⟩
                  rw [HMB.out]
                  have hb5 := (hu5.block _ (Array.getElem?_eq_some_iff.1 hb4).1).trans hb4
                  have hr5 := hr4.up hu5
                  have hup5 := hup4.trans hu5
                  clear hb4 hr4 hup4 hu5
                  have p0 := blk_cell hb5 0
                  have p1 := blk_cell hb5 1
                  have p2 := blk_cell hb5 2
                  have p3 := blk_cell hb5 3
                  have p4 := blk_cell hb5 4
                  have p5 := blk_cell hb5 5
                  go_wp2_with fail
                  clear p0 p1 p2 p3 p4 p5
                  refine (msame_any (7) f t 0 0 (some ⟨g2, 0, none⟩) 1 1 [itK] (7) f t 0 0 (some ⟨g2, 0, none⟩) 1 1 [itK] w5 hr5 hr5 (by omega) (by omega)).mono ?_
                  rintro e w6 ⟨rfl, hu6⟩
                  rw [HSM.out]
                  go_wp2_with fail
                  refine (awake20_any w6).mono ?_
                  rintro e w7 ⟨rfl, hu7⟩
                  go_wp2_with fail
                  go_ret
                  exact ⟨rfl, (hup5.trans hu6).trans hu7⟩
                · rw [decide_eq_false (by omega)] at HMB
                  go_enter Try.func3, Try.ntmps3
                  go_wp2_with fail
                  rw [← HW.out]
                  clear HW
                  generalize w.heap.size + 1 = g2 at hb1 hr1 ⊢
                  generalize w.heap.size = g1 at hb1 ⊢
                  have HPE : Hid (mputE (7) f t 0 0 [itK] = 1) := by
                    show _ = _
                    unfold mputE; rw [HMB.out]; rfl
                  have hsm : sameM (7) f t 0 0 [itK] (7) f t 0 0 [itK] = true := by unfold sameM; simp
                  have HSM := Lib.hid hsm
                  clear hsm
                  refine (mput_any none 0 0 [] (7) f t 0 0 (some ⟨g2, 0, none⟩) 1 1 [itK] (w1) Rd.empty (by omega) hr1 (by omega)).mono ?_
                  rintro e w4 ⟨P, pn, pc, rfl, hoP, hu4⟩
                  rw [HPE.out]
                  have hb4 := (hu4.block _ (Array.getElem?_eq_some_iff.1 hb1).1).trans hb1
                  have hr4 := hr1.up hu4
                  have hup4 := hu1.trans hu4
                  clear hb1 hr1 hu1 hu4 hoP
                  have p0 := blk_cell hb4 0
                  have p1 := blk_cell hb4 1
                  have p2 := blk_cell hb4 2
                  have p3 := blk_cell hb4 3
                  have p4 := blk_cell hb4 4
                  have p5 := blk_cell hb4 5
                  go_wp2_with fail
                  clear p0 p1 p2 p3 p4 p5
                  refine (mok_any (7) f t 0 0 (some ⟨g2, 0, none⟩) 1 1 [itK] w4 hr4 (by omega)).mono ?_
                  rintro e w5 ⟨rfl, hu5⟩
                  rw [HMB.out]
                  have hb5 := (hu5.block _ (Array.getElem?_eq_some_iff.1 hb4).1).trans hb4
                  have hr5 := hr4.up hu5
                  have hup5 := hup4.trans hu5
                  clear hb4 hr4 hup4 hu5
                  have p0 := blk_cell hb5 0
                  have p1 := blk_cell hb5 1
                  have p2 := blk_cell hb5 2
                  have p3 := blk_cell hb5 3
                  have p4 := blk_cell hb5 4
                  have p5 := blk_cell hb5 5
                  go_wp2_with fail
                  clear p0 p1 p2 p3 p4 p5
                  refine (msame_any (7) f t 0 0 (some ⟨g2, 0, none⟩) 1 1 [itK] (7) f t 0 0 (some ⟨g2, 0, none⟩) 1 1 [itK] w5 hr5 hr5 (by omega) (by omega)).mono ?_
                  rintro e w6 ⟨rfl, hu6⟩
                  rw [HSM.out]
                  go_wp2_with fail
                  refine (awake20_any w6).mono ?_
                  rintro e w7 ⟨rfl, hu7⟩
                  go_wp2_with fail
                  go_ret
                  exact ⟨rfl, (hup5.trans hu6).trans hu7⟩
              · rw [decide_eq_false (by omega)] at HMB
                go_enter Try.func3, Try.ntmps3
                go_wp2_with fail
                rw [← HW.out]
                clear HW
                generalize w.heap.size + 1 = g2 at hb1 hr1 ⊢
                generalize w.heap.size = g1 at hb1 ⊢
                have HPE : Hid (mputE (7) f t 0 0 [itK] = 1) := by
                  show _ = _
                  unfold mputE; rw [HMB.out]; rfl
                have hsm : sameM (7) f t 0 0 [itK] (7) f t 0 0 [itK] = true := by unfold sameM; simp
                have HSM := Lib.hid hsm
                clear hsm
                refine (mput_any none 0 0 [] (7) f t 0 0 (some ⟨g2, 0, none⟩) 1 1 [itK] (w1) Rd.empty (by omega) hr1 (by omega)).mono ?_
                rintro e w4 ⟨P, pn, pc, rfl, hoP, hu4⟩
                rw [HPE.out]
                have hb4 := (hu4.block _ (Array.getElem?_eq_some_iff.1 hb1).1).trans hb1
                have hr4 := hr1.up hu4
                have hup4 := hu1.trans hu4
                clear hb1 hr1 hu1 hu4 hoP
                have p0 := blk_cell hb4 0
                have p1 := blk_cell hb4 1
                have p2 := blk_cell hb4 2
                have p3 := blk_cell hb4 3
                have p4 := blk_cell hb4 4
                have p5 := blk_cell hb4 5
                go_wp2_with fail
                clear p0 p1 p2 p3 p4 p5
                refine (mok_any (7) f t 0 0 (some ⟨g2, 0, none⟩) 1 1 [itK] w4 hr4 (by omega)).mono ?_
                rintro e w5 ⟨rfl, hu5⟩
                rw [HMB.out]
                have hb5 := (hu5.block _ (Array.getElem?_eq_some_iff.1 hb4).1).trans hb4
                have hr5 := hr4.up hu5
                have hup5 := hup4.trans hu5
                clear hb4 hr4 hup4 hu5
                have p0 := blk_cell hb5 0
                have p1 := blk_cell hb5 1
                have p2 := blk_cell hb5 2
                have p3 := blk_cell hb5 3
                have p4 := blk_cell hb5 4
                have p5 := blk_cell hb5 5
                go_wp2_with fail
                clear p0 p1 p2 p3 p4 p5
                refine (msame_any (7) f t 0 0 (some ⟨g2, 0, none⟩) 1 1 [itK] (7) f t 0 0 (some ⟨g2, 0, none⟩) 1 1 [itK] w5 hr5 hr5 (by omega) (by omega)).mono ?_
                rintro e w6 ⟨rfl, hu6⟩
                rw [HSM.out]
                go_wp2_with fail
                refine (awake20_any w6).mono ?_
                rintro e w7 ⟨rfl, hu7⟩
                go_wp2_with fail
                go_ret
                exact ⟨rfl, (hup5.trans hu6).trans hu7⟩
            · rw [decide_eq_false (by omega)] at HMB
              go_enter Try.func3, Try.ntmps3
              go_wp2_with fail
              rw [← HW.out]
              clear HW
              generalize w.heap.size + 1 = g2 at hb1 hr1 ⊢
              generalize w.heap.size = g1 at hb1 ⊢
              have HPE : Hid (mputE (7) f t 0 0 [itK] = 1) := by
                show _ = _
                unfold mputE; rw [HMB.out]; rfl
              have hsm : sameM (7) f t 0 0 [itK] (7) f t 0 0 [itK] = true := by unfold sameM; simp
              have HSM := Lib.hid hsm
              clear hsm
              refine (mput_any none 0 0 [] (7) f t 0 0 (some ⟨g2, 0, none⟩) 1 1 [itK] (w1) Rd.empty (by omega) hr1 (by omega)).mono ?_
              rintro e w4 ⟨P, pn, pc, rfl, hoP, hu4⟩
              rw [HPE.out]
              have hb4 := (hu4.block _ (Array.getElem?_eq_some_iff.1 hb1).1).trans hb1
              have hr4 := hr1.up hu4
              have hup4 := hu1.trans hu4
              clear hb1 hr1 hu1 hu4 hoP
              have p0 := blk_cell hb4 0
              have p1 := blk_cell hb4 1
              have p2 := blk_cell hb4 2
              have p3 := blk_cell hb4 3
              have p4 := blk_cell hb4 4
              have p5 := blk_cell hb4 5
              go_wp2_with fail
              clear p0 p1 p2 p3 p4 p5
              refine (mok_any (7) f t 0 0 (some ⟨g2, 0, none⟩) 1 1 [itK] w4 hr4 (by omega)).mono ?_
              rintro e w5 ⟨rfl, hu5⟩
              rw [HMB.out]
              have hb5 := (hu5.block _ (Array.getElem?_eq_some_iff.1 hb4).1).trans hb4
              have hr5 := hr4.up hu5
              have hup5 := hup4.trans hu5
              clear hb4 hr4 hup4 hu5
              have p0 := blk_cell hb5 0
              have p1 := blk_cell hb5 1
              have p2 := blk_cell hb5 2
              have p3 := blk_cell hb5 3
              have p4 := blk_cell hb5 4
              have p5 := blk_cell hb5 5
              go_wp2_with fail
              clear p0 p1 p2 p3 p4 p5
              refine (msame_any (7) f t 0 0 (some ⟨g2, 0, none⟩) 1 1 [itK] (7) f t 0 0 (some ⟨g2, 0, none⟩) 1 1 [itK] w5 hr5 hr5 (by omega) (by omega)).mono ?_
              rintro e w6 ⟨rfl, hu6⟩
              rw [HSM.out]
              go_wp2_with fail
              refine (awake20_any w6).mono ?_
              rintro e w7 ⟨rfl, hu7⟩
              go_wp2_with fail
              go_ret
              exact ⟨rfl, (hup5.trans hu6).trans hu7⟩
          · rw [decide_eq_false (by omega)] at HMB
            go_enter Try.func3, Try.ntmps3
            go_wp2_with fail
            rw [← HW.out]
            clear HW
            generalize w.heap.size + 1 = g2 at hb1 hr1 ⊢
            generalize w.heap.size = g1 at hb1 ⊢
            have HPE : Hid (mputE (7) f t 0 0 [itK] = 1) := by
              show _ = _
              unfold mputE; rw [HMB.out]; rfl
            have hsm : sameM (7) f t 0 0 [itK] (7) f t 0 0 [itK] = true := by unfold sameM; simp
            have HSM := Lib.hid hsm
            clear hsm
            refine (mput_any none 0 0 [] (7) f t 0 0 (some ⟨g2, 0, none⟩) 1 1 [itK] (w1) Rd.empty (by omega) hr1 (by omega)).mono ?_
            rintro e w4 ⟨P, pn, pc, rfl, hoP, hu4⟩
            rw [HPE.out]
            have hb4 := (hu4.block _ (Array.getElem?_eq_some_iff.1 hb1).1).trans hb1
            have hr4 := hr1.up hu4
            have hup4 := hu1.trans hu4
            clear hb1 hr1 hu1 hu4 hoP
            have p0 := blk_cell hb4 0
            have p1 := blk_cell hb4 1
            have p2 := blk_cell hb4 2
            have p3 := blk_cell hb4 3
            have p4 := blk_cell hb4 4
            have p5 := blk_cell hb4 5
            go_wp2_with fail
            clear p0 p1 p2 p3 p4 p5
            refine (mok_any (7) f t 0 0 (some ⟨g2, 0, none⟩) 1 1 [itK] w4 hr4 (by omega)).mono ?_
            rintro e w5 ⟨rfl, hu5⟩
            rw [HMB.out]
            have hb5 := (hu5.block _ (Array.getElem?_eq_some_iff.1 hb4).1).trans hb4
            have hr5 := hr4.up hu5
            have hup5 := hup4.trans hu5
            clear hb4 hr4 hup4 hu5
            have p0 := blk_cell hb5 0
            have p1 := blk_cell hb5 1
            have p2 := blk_cell hb5 2
            have p3 := blk_cell hb5 3
            have p4 := blk_cell hb5 4
            have p5 := blk_cell hb5 5
            go_wp2_with fail
            clear p0 p1 p2 p3 p4 p5
            refine (msame_any (7) f t 0 0 (some ⟨g2, 0, none⟩) 1 1 [itK] (7) f t 0 0 (some ⟨g2, 0, none⟩) 1 1 [itK] w5 hr5 hr5 (by omega) (by omega)).mono ?_
            rintro e w6 ⟨rfl, hu6⟩
            rw [HSM.out]
            go_wp2_with fail
            refine (awake20_any w6).mono ?_
            rintro e w7 ⟨rfl, hu7⟩
            go_wp2_with fail
            go_ret
            exact ⟨rfl, (hup5.trans hu6).trans hu7⟩
        · by_cases g4 : k = 8
          · subst g4
            by_cases f1 : 0 ≤ f
            · by_cases f2 : f ≤ 6
              · by_cases t1 : 0 ≤ t
                · by_cases t2 : t ≤ 6
                  · rw [decide_eq_true (by omega)] at HMB
                    go_enter Try.func3, Try.ntmps3
                    go_wp2_with fail
                    rw [← HW.out]
                    clear HW
                    generalize w.heap.size + 1 = g2 at hb1 hr1 ⊢
                    generalize w.heap.size = g1 at hb1 ⊢
                    have HPE : Hid (mputE (8) f t 0 0 [itK] = 0) := by
                      show _ = _
                      unfold mputE; rw [HMB.out]; rfl
                    have hsm : sameM (8) f t 0 0 [itK] (8) f t 0 0 [itK] = true := by unfold sameM; simp
                    have HSM := Lib.hid hsm
                    clear hsm
                    refine (mput_any none 0 0 [] (8) f t 0 0 (some ⟨g2, 0, none⟩) 1 1 [itK] (w1) Rd.empty (by omega) hr1 (by omega)).mono ?_
                    rintro e w4 ⟨P, pn, pc, rfl, hoP, hu4⟩
                    rw [HPE.out]
                    have hb4 := (hu4.block _ (Array.getElem?_eq_some_iff.1 hb1).1).trans hb1
                    have hr4 := hr1.up hu4
                    have hup4 := hu1.trans hu4
                    clear hb1 hr1 hu1 hu4 hoP
                    have p0 := blk_cell hb4 0
                    have p1 := blk_cell hb4 1
                    have p2 := blk_cell hb4 2
                    have p3 := blk_cell hb4 3
                    have p4 := blk_cell hb4 4
                    have p5 := blk_cell hb4 5
                    go_wp2_with fail
                    clear p0 p1 p2 p3 p4 p5
                    refine (mok_any (8) f t 0 0 (some ⟨g2, 0, none⟩) 1 1 [itK] w4 hr4 (by omega)).mono ?_
                    rintro e w5 ⟨rfl, hu5⟩
                    rw [HMB.out]
                    have hb5 := (hu5.block _ (Array.getElem?_eq_some_iff.1 hb4).1).trans hb4
                    have hr5 := hr4.up hu5
                    have hup5 := hup4.trans hu5
                    clear hb4 hr4 hup4 hu5
                    have p0 := blk_cell hb5 0
                    have p1 := blk_cell hb5 1
                    have p2 := blk_cell hb5 2
                    have p3 := blk_cell hb5 3
                    have p4 := blk_cell hb5 4
                    have p5 := blk_cell hb5 5
                    go_wp2_with fail
                    clear p0 p1 p2 p3 p4 p5
                    refine (msame_any (8) f t 0 0 (some ⟨g2, 0, none⟩) 1 1 [itK] (8) f t 0 0 (some ⟨g2, 0, none⟩) 1 1 [itK] w5 hr5 hr5 (by omega) (by omega)).mono ?_
                    rintro e w6 ⟨rfl, hu6⟩
                    rw [HSM.out]
                    go_wp2_with fail
                    refine (awake20_any w6).mono ?_
                    rintro e w7 ⟨rfl, hu7⟩
                    go_wp2_with fail
                    go_ret
                    exact ⟨rfl, (hup5.trans hu6).trans hu7⟩
                  · rw [decide_eq_false (by omega)] at HMB
                    go_enter Try.func3, Try.ntmps3
                    go_wp2_with fail
                    rw [← HW.out]
                    clear HW
                    generalize w.heap.size + 1 = g2 at hb1 hr1 ⊢
                    generalize w.heap.size = g1 at hb1 ⊢
                    have HPE : Hid (mputE (8) f t 0 0 [itK] = 1) := by
                      show _ = _
                      unfold mputE; rw [HMB.out]; rfl
                    have hsm : sameM (8) f t 0 0 [itK] (8) f t 0 0 [itK] = true := by unfold sameM; simp
                    have HSM := Lib.hid hsm
                    clear hsm
                    refine (mput_any none 0 0 [] (8) f t 0 0 (some ⟨g2, 0, none⟩) 1 1 [itK] (w1) Rd.empty (by omega) hr1 (by omega)).mono ?_
                    rintro e w4 ⟨P, pn, pc, rfl, hoP, hu4⟩
                    rw [HPE.out]
                    have hb4 := (hu4.block _ (Array.getElem?_eq_some_iff.1 hb1).1).trans hb1
                    have hr4 := hr1.up hu4
                    have hup4 := hu1.trans hu4
                    clear hb1 hr1 hu1 hu4 hoP
                    have p0 := blk_cell hb4 0
                    have p1 := blk_cell hb4 1
                    have p2 := blk_cell hb4 2
                    have p3 := blk_cell hb4 3
                    have p4 := blk_cell hb4 4
                    have p5 := blk_cell hb4 5
                    go_wp2_with fail
                    clear p0 p1 p2 p3 p4 p5
                    refine (mok_any (8) f t 0 0 (some ⟨g2, 0, none⟩) 1 1 [itK] w4 hr4 (by omega)).mono ?_
                    rintro e w5 ⟨rfl, hu5⟩
                    rw [HMB.out]
                    have hb5 := (hu5.block _ (Array.getElem?_eq_some_iff.1 hb4).1).trans hb4
                    have hr5 := hr4.up hu5
                    have hup5 := hup4.trans hu5
                    clear hb4 hr4 hup4 hu5
                    have p0 := blk_cell hb5 0
                    have p1 := blk_cell hb5 1
                    have p2 := blk_cell hb5 2
                    have p3 := blk_cell hb5 3
                    have p4 := blk_cell hb5 4
                    have p5 := blk_cell hb5 5
                    go_wp2_with fail
                    clear p0 p1 p2 p3 p4 p5
                    refine (msame_any (8) f t 0 0 (some ⟨g2, 0, none⟩) 1 1 [itK] (8) f t 0 0 (some ⟨g2, 0, none⟩) 1 1 [itK] w5 hr5 hr5 (by omega) (by omega)).mono ?_
                    rintro e w6 ⟨rfl, hu6⟩
                    rw [HSM.out]
                    go_wp2_with fail
                    refine (awake20_any w6).mono ?_
                    rintro e w7 ⟨rfl, hu7⟩
                    go_wp2_with fail
                    go_ret
                    exact ⟨rfl, (hup5.trans hu6).trans hu7⟩
                · rw [decide_eq_false (by omega)] at HMB
                  go_enter Try.func3, Try.ntmps3
                  go_wp2_with fail
                  rw [← HW.out]
                  clear HW
                  generalize w.heap.size + 1 = g2 at hb1 hr1 ⊢
                  generalize w.heap.size = g1 at hb1 ⊢
                  have HPE : Hid (mputE (8) f t 0 0 [itK] = 1) := by
                    show _ = _
                    unfold mputE; rw [HMB.out]; rfl
                  have hsm : sameM (8) f t 0 0 [itK] (8) f t 0 0 [itK] = true := by unfold sameM; simp
                  have HSM := Lib.hid hsm
                  clear hsm
                  refine (mput_any none 0 0 [] (8) f t 0 0 (some ⟨g2, 0, none⟩) 1 1 [itK] (w1) Rd.empty (by omega) hr1 (by omega)).mono ?_
                  rintro e w4 ⟨P, pn, pc, rfl, hoP, hu4⟩
                  rw [HPE.out]
                  have hb4 := (hu4.block _ (Array.getElem?_eq_some_iff.1 hb1).1).trans hb1
                  have hr4 := hr1.up hu4
                  have hup4 := hu1.trans hu4
                  clear hb1 hr1 hu1 hu4 hoP
                  have p0 := blk_cell hb4 0
                  have p1 := blk_cell hb4 1
                  have p2 := blk_cell hb4 2
                  have p3 := blk_cell hb4 3
                  have p4 := blk_cell hb4 4
                  have p5 := blk_cell hb4 5
                  go_wp2_with fail
                  clear p0 p1 p2 p3 p4 p5
                  refine (mok_any (8) f t 0 0 (some ⟨g2, 0, none⟩) 1 1 [itK] w4 hr4 (by omega)).mono ?_
                  rintro e w5 ⟨rfl, hu5⟩
                  rw [HMB.out]
                  have hb5 := (hu5.block _ (Array.getElem?_eq_some_iff.1 hb4).1).trans hb4
                  have hr5 := hr4.up hu5
                  have hup5 := hup4.trans hu5
                  clear hb4 hr4 hup4 hu5
                  have p0 := blk_cell hb5 0
                  have p1 := blk_cell hb5 1
                  have p2 := blk_cell hb5 2
                  have p3 := blk_cell hb5 3
                  have p4 := blk_cell hb5 4
                  have p5 := blk_cell hb5 5
                  go_wp2_with fail
                  clear p0 p1 p2 p3 p4 p5
                  refine (msame_any (8) f t 0 0 (some ⟨g2, 0, none⟩) 1 1 [itK] (8) f t 0 0 (some ⟨g2, 0, none⟩) 1 1 [itK] w5 hr5 hr5 (by omega) (by omega)).mono ?_
                  rintro e w6 ⟨rfl, hu6⟩
                  rw [HSM.out]
                  go_wp2_with fail
                  refine (awake20_any w6).mono ?_
                  rintro e w7 ⟨rfl, hu7⟩
                  go_wp2_with fail
                  go_ret
                  exact ⟨rfl, (hup5.trans hu6).trans hu7⟩
              · rw [decide_eq_false (by omega)] at HMB
                go_enter Try.func3, Try.ntmps3
                go_wp2_with fail
                rw [← HW.out]
                clear HW
                generalize w.heap.size + 1 = g2 at hb1 hr1 ⊢
                generalize w.heap.size = g1 at hb1 ⊢
                have HPE : Hid (mputE (8) f t 0 0 [itK] = 1) := by
                  show _ = _
                  unfold mputE; rw [HMB.out]; rfl
                have hsm : sameM (8) f t 0 0 [itK] (8) f t 0 0 [itK] = true := by unfold sameM; simp
                have HSM := Lib.hid hsm
                clear hsm
                refine (mput_any none 0 0 [] (8) f t 0 0 (some ⟨g2, 0, none⟩) 1 1 [itK] (w1) Rd.empty (by omega) hr1 (by omega)).mono ?_
                rintro e w4 ⟨P, pn, pc, rfl, hoP, hu4⟩
                rw [HPE.out]
                have hb4 := (hu4.block _ (Array.getElem?_eq_some_iff.1 hb1).1).trans hb1
                have hr4 := hr1.up hu4
                have hup4 := hu1.trans hu4
                clear hb1 hr1 hu1 hu4 hoP
                have p0 := blk_cell hb4 0
                have p1 := blk_cell hb4 1
                have p2 := blk_cell hb4 2
                have p3 := blk_cell hb4 3
                have p4 := blk_cell hb4 4
                have p5 := blk_cell hb4 5
                go_wp2_with fail
                clear p0 p1 p2 p3 p4 p5
                refine (mok_any (8) f t 0 0 (some ⟨g2, 0, none⟩) 1 1 [itK] w4 hr4 (by omega)).mono ?_
                rintro e w5 ⟨rfl, hu5⟩
                rw [HMB.out]
                have hb5 := (hu5.block _ (Array.getElem?_eq_some_iff.1 hb4).1).trans hb4
                have hr5 := hr4.up hu5
                have hup5 := hup4.trans hu5
                clear hb4 hr4 hup4 hu5
                have p0 := blk_cell hb5 0
                have p1 := blk_cell hb5 1
                have p2 := blk_cell hb5 2
                have p3 := blk_cell hb5 3
                have p4 := blk_cell hb5 4
                have p5 := blk_cell hb5 5
                go_wp2_with fail
                clear p0 p1 p2 p3 p4 p5
                refine (msame_any (8) f t 0 0 (some ⟨g2, 0, none⟩) 1 1 [itK] (8) f t 0 0 (some ⟨g2, 0, none⟩) 1 1 [itK] w5 hr5 hr5 (by omega) (by omega)).mono ?_
                rintro e w6 ⟨rfl, hu6⟩
                rw [HSM.out]
                go_wp2_with fail
                refine (awake20_any w6).mono ?_
                rintro e w7 ⟨rfl, hu7⟩
                go_wp2_with fail
                go_ret
                exact ⟨rfl, (hup5.trans hu6).trans hu7⟩
            · rw [decide_eq_false (by omega)] at HMB
              go_enter Try.func3, Try.ntmps3
              go_wp2_with fail
              rw [← HW.out]
              clear HW
              generalize w.heap.size + 1 = g2 at hb1 hr1 ⊢
              generalize w.heap.size = g1 at hb1 ⊢
              have HPE : Hid (mputE (8) f t 0 0 [itK] = 1) := by
                show _ = _
                unfold mputE; rw [HMB.out]; rfl
              have hsm : sameM (8) f t 0 0 [itK] (8) f t 0 0 [itK] = true := by unfold sameM; simp
              have HSM := Lib.hid hsm
              clear hsm
              refine (mput_any none 0 0 [] (8) f t 0 0 (some ⟨g2, 0, none⟩) 1 1 [itK] (w1) Rd.empty (by omega) hr1 (by omega)).mono ?_
              rintro e w4 ⟨P, pn, pc, rfl, hoP, hu4⟩
              rw [HPE.out]
              have hb4 := (hu4.block _ (Array.getElem?_eq_some_iff.1 hb1).1).trans hb1
              have hr4 := hr1.up hu4
              have hup4 := hu1.trans hu4
              clear hb1 hr1 hu1 hu4 hoP
              have p0 := blk_cell hb4 0
              have p1 := blk_cell hb4 1
              have p2 := blk_cell hb4 2
              have p3 := blk_cell hb4 3
              have p4 := blk_cell hb4 4
              have p5 := blk_cell hb4 5
              go_wp2_with fail
              clear p0 p1 p2 p3 p4 p5
              refine (mok_any (8) f t 0 0 (some ⟨g2, 0, none⟩) 1 1 [itK] w4 hr4 (by omega)).mono ?_
              rintro e w5 ⟨rfl, hu5⟩
              rw [HMB.out]
              have hb5 := (hu5.block _ (Array.getElem?_eq_some_iff.1 hb4).1).trans hb4
              have hr5 := hr4.up hu5
              have hup5 := hup4.trans hu5
              clear hb4 hr4 hup4 hu5
              have p0 := blk_cell hb5 0
              have p1 := blk_cell hb5 1
              have p2 := blk_cell hb5 2
              have p3 := blk_cell hb5 3
              have p4 := blk_cell hb5 4
              have p5 := blk_cell hb5 5
              go_wp2_with fail
              clear p0 p1 p2 p3 p4 p5
              refine (msame_any (8) f t 0 0 (some ⟨g2, 0, none⟩) 1 1 [itK] (8) f t 0 0 (some ⟨g2, 0, none⟩) 1 1 [itK] w5 hr5 hr5 (by omega) (by omega)).mono ?_
              rintro e w6 ⟨rfl, hu6⟩
              rw [HSM.out]
              go_wp2_with fail
              refine (awake20_any w6).mono ?_
              rintro e w7 ⟨rfl, hu7⟩
              go_wp2_with fail
              go_ret
              exact ⟨rfl, (hup5.trans hu6).trans hu7⟩
          · rw [decide_eq_false (by omega)] at HMB
            have b1 : (k != 1) = true := by simp [g1]
            have b2 : (k != 5) = true := by simp [g2]
            have b3 : (k != 7) = true := by simp [g3]
            have b4 : (k != 8) = true := by simp [g4]
            by_cases k1 : 1 ≤ k
            · by_cases k2 : k ≤ 10
              · by_cases f1 : 0 ≤ f
                · by_cases f2 : f ≤ 6
                  · by_cases t1 : 0 ≤ t
                    · by_cases t2 : t ≤ 6
                      · go_enter Try.func3, Try.ntmps3
                        go_wp2_with fail
                        rw [← HW.out]
                        clear HW
                        generalize w.heap.size + 1 = g2 at hb1 hr1 ⊢
                        generalize w.heap.size = g1 at hb1 ⊢
                        have HPE : Hid (mputE (k) f t 0 0 [itK] = 1) := by
                          show _ = _
                          unfold mputE; rw [HMB.out]; rfl
                        have hsm : sameM (k) f t 0 0 [itK] (k) f t 0 0 [itK] = true := by unfold sameM; simp
                        have HSM := Lib.hid hsm
                        clear hsm
                        refine (mput_any none 0 0 [] (k) f t 0 0 (some ⟨g2, 0, none⟩) 1 1 [itK] (w1) Rd.empty (by omega) hr1 (by omega)).mono ?_
                        rintro e w4 ⟨P, pn, pc, rfl, hoP, hu4⟩
                        rw [HPE.out]
                        have hb4 := (hu4.block _ (Array.getElem?_eq_some_iff.1 hb1).1).trans hb1
                        have hr4 := hr1.up hu4
                        have hup4 := hu1.trans hu4
                        clear hb1 hr1 hu1 hu4 hoP
                        have p0 := blk_cell hb4 0
                        have p1 := blk_cell hb4 1
                        have p2 := blk_cell hb4 2
                        have p3 := blk_cell hb4 3
                        have p4 := blk_cell hb4 4
                        have p5 := blk_cell hb4 5
                        go_wp2_with fail
                        clear p0 p1 p2 p3 p4 p5
                        refine (mok_any (k) f t 0 0 (some ⟨g2, 0, none⟩) 1 1 [itK] w4 hr4 (by omega)).mono ?_
                        rintro e w5 ⟨rfl, hu5⟩
                        rw [HMB.out]
                        have hb5 := (hu5.block _ (Array.getElem?_eq_some_iff.1 hb4).1).trans hb4
                        have hr5 := hr4.up hu5
                        have hup5 := hup4.trans hu5
                        clear hb4 hr4 hup4 hu5
                        have p0 := blk_cell hb5 0
                        have p1 := blk_cell hb5 1
                        have p2 := blk_cell hb5 2
                        have p3 := blk_cell hb5 3
                        have p4 := blk_cell hb5 4
                        have p5 := blk_cell hb5 5
                        go_wp2_with fail
                        clear p0 p1 p2 p3 p4 p5
                        refine (msame_any (k) f t 0 0 (some ⟨g2, 0, none⟩) 1 1 [itK] (k) f t 0 0 (some ⟨g2, 0, none⟩) 1 1 [itK] w5 hr5 hr5 (by omega) (by omega)).mono ?_
                        rintro e w6 ⟨rfl, hu6⟩
                        rw [HSM.out]
                        go_wp2_with fail
                        refine (awake20_any w6).mono ?_
                        rintro e w7 ⟨rfl, hu7⟩
                        go_wp2_with fail
                        go_ret
                        exact ⟨rfl, (hup5.trans hu6).trans hu7⟩
                      · go_enter Try.func3, Try.ntmps3
                        go_wp2_with fail
                        rw [← HW.out]
                        clear HW
                        generalize w.heap.size + 1 = g2 at hb1 hr1 ⊢
                        generalize w.heap.size = g1 at hb1 ⊢
                        have HPE : Hid (mputE (k) f t 0 0 [itK] = 1) := by
                          show _ = _
                          unfold mputE; rw [HMB.out]; rfl
                        have hsm : sameM (k) f t 0 0 [itK] (k) f t 0 0 [itK] = true := by unfold sameM; simp
                        have HSM := Lib.hid hsm
                        clear hsm
                        refine (mput_any none 0 0 [] (k) f t 0 0 (some ⟨g2, 0, none⟩) 1 1 [itK] (w1) Rd.empty (by omega) hr1 (by omega)).mono ?_
                        rintro e w4 ⟨P, pn, pc, rfl, hoP, hu4⟩
                        rw [HPE.out]
                        have hb4 := (hu4.block _ (Array.getElem?_eq_some_iff.1 hb1).1).trans hb1
                        have hr4 := hr1.up hu4
                        have hup4 := hu1.trans hu4
                        clear hb1 hr1 hu1 hu4 hoP
                        have p0 := blk_cell hb4 0
                        have p1 := blk_cell hb4 1
                        have p2 := blk_cell hb4 2
                        have p3 := blk_cell hb4 3
                        have p4 := blk_cell hb4 4
                        have p5 := blk_cell hb4 5
                        go_wp2_with fail
                        clear p0 p1 p2 p3 p4 p5
                        refine (mok_any (k) f t 0 0 (some ⟨g2, 0, none⟩) 1 1 [itK] w4 hr4 (by omega)).mono ?_
                        rintro e w5 ⟨rfl, hu5⟩
                        rw [HMB.out]
                        have hb5 := (hu5.block _ (Array.getElem?_eq_some_iff.1 hb4).1).trans hb4
                        have hr5 := hr4.up hu5
                        have hup5 := hup4.trans hu5
                        clear hb4 hr4 hup4 hu5
                        have p0 := blk_cell hb5 0
                        have p1 := blk_cell hb5 1
                        have p2 := blk_cell hb5 2
                        have p3 := blk_cell hb5 3
                        have p4 := blk_cell hb5 4
                        have p5 := blk_cell hb5 5
                        go_wp2_with fail
                        clear p0 p1 p2 p3 p4 p5
                        refine (msame_any (k) f t 0 0 (some ⟨g2, 0, none⟩) 1 1 [itK] (k) f t 0 0 (some ⟨g2, 0, none⟩) 1 1 [itK] w5 hr5 hr5 (by omega) (by omega)).mono ?_
                        rintro e w6 ⟨rfl, hu6⟩
                        rw [HSM.out]
                        go_wp2_with fail
                        refine (awake20_any w6).mono ?_
                        rintro e w7 ⟨rfl, hu7⟩
                        go_wp2_with fail
                        go_ret
                        exact ⟨rfl, (hup5.trans hu6).trans hu7⟩
                    · go_enter Try.func3, Try.ntmps3
                      go_wp2_with fail
                      rw [← HW.out]
                      clear HW
                      generalize w.heap.size + 1 = g2 at hb1 hr1 ⊢
                      generalize w.heap.size = g1 at hb1 ⊢
                      have HPE : Hid (mputE (k) f t 0 0 [itK] = 1) := by
                        show _ = _
                        unfold mputE; rw [HMB.out]; rfl
                      have hsm : sameM (k) f t 0 0 [itK] (k) f t 0 0 [itK] = true := by unfold sameM; simp
                      have HSM := Lib.hid hsm
                      clear hsm
                      refine (mput_any none 0 0 [] (k) f t 0 0 (some ⟨g2, 0, none⟩) 1 1 [itK] (w1) Rd.empty (by omega) hr1 (by omega)).mono ?_
                      rintro e w4 ⟨P, pn, pc, rfl, hoP, hu4⟩
                      rw [HPE.out]
                      have hb4 := (hu4.block _ (Array.getElem?_eq_some_iff.1 hb1).1).trans hb1
                      have hr4 := hr1.up hu4
                      have hup4 := hu1.trans hu4
                      clear hb1 hr1 hu1 hu4 hoP
                      have p0 := blk_cell hb4 0
                      have p1 := blk_cell hb4 1
                      have p2 := blk_cell hb4 2
                      have p3 := blk_cell hb4 3
                      have p4 := blk_cell hb4 4
                      have p5 := blk_cell hb4 5
                      go_wp2_with fail
                      clear p0 p1 p2 p3 p4 p5
                      refine (mok_any (k) f t 0 0 (some ⟨g2, 0, none⟩) 1 1 [itK] w4 hr4 (by omega)).mono ?_
                      rintro e w5 ⟨rfl, hu5⟩
                      rw [HMB.out]
                      have hb5 := (hu5.block _ (Array.getElem?_eq_some_iff.1 hb4).1).trans hb4
                      have hr5 := hr4.up hu5
                      have hup5 := hup4.trans hu5
                      clear hb4 hr4 hup4 hu5
                      have p0 := blk_cell hb5 0
                      have p1 := blk_cell hb5 1
                      have p2 := blk_cell hb5 2
                      have p3 := blk_cell hb5 3
                      have p4 := blk_cell hb5 4
                      have p5 := blk_cell hb5 5
                      go_wp2_with fail
                      clear p0 p1 p2 p3 p4 p5
                      refine (msame_any (k) f t 0 0 (some ⟨g2, 0, none⟩) 1 1 [itK] (k) f t 0 0 (some ⟨g2, 0, none⟩) 1 1 [itK] w5 hr5 hr5 (by omega) (by omega)).mono ?_
                      rintro e w6 ⟨rfl, hu6⟩
                      rw [HSM.out]
                      go_wp2_with fail
                      refine (awake20_any w6).mono ?_
                      rintro e w7 ⟨rfl, hu7⟩
                      go_wp2_with fail
                      go_ret
                      exact ⟨rfl, (hup5.trans hu6).trans hu7⟩
                  · go_enter Try.func3, Try.ntmps3
                    go_wp2_with fail
                    rw [← HW.out]
                    clear HW
                    generalize w.heap.size + 1 = g2 at hb1 hr1 ⊢
                    generalize w.heap.size = g1 at hb1 ⊢
                    have HPE : Hid (mputE (k) f t 0 0 [itK] = 1) := by
                      show _ = _
                      unfold mputE; rw [HMB.out]; rfl
                    have hsm : sameM (k) f t 0 0 [itK] (k) f t 0 0 [itK] = true := by unfold sameM; simp
                    have HSM := Lib.hid hsm
                    clear hsm
                    refine (mput_any none 0 0 [] (k) f t 0 0 (some ⟨g2, 0, none⟩) 1 1 [itK] (w1) Rd.empty (by omega) hr1 (by omega)).mono ?_
                    rintro e w4 ⟨P, pn, pc, rfl, hoP, hu4⟩
                    rw [HPE.out]
                    have hb4 := (hu4.block _ (Array.getElem?_eq_some_iff.1 hb1).1).trans hb1
                    have hr4 := hr1.up hu4
                    have hup4 := hu1.trans hu4
                    clear hb1 hr1 hu1 hu4 hoP
                    have p0 := blk_cell hb4 0
                    have p1 := blk_cell hb4 1
                    have p2 := blk_cell hb4 2
                    have p3 := blk_cell hb4 3
                    have p4 := blk_cell hb4 4
                    have p5 := blk_cell hb4 5
                    go_wp2_with fail
                    clear p0 p1 p2 p3 p4 p5
                    refine (mok_any (k) f t 0 0 (some ⟨g2, 0, none⟩) 1 1 [itK] w4 hr4 (by omega)).mono ?_
                    rintro e w5 ⟨rfl, hu5⟩
                    rw [HMB.out]
                    have hb5 := (hu5.block _ (Array.getElem?_eq_some_iff.1 hb4).1).trans hb4
                    have hr5 := hr4.up hu5
                    have hup5 := hup4.trans hu5
                    clear hb4 hr4 hup4 hu5
                    have p0 := blk_cell hb5 0
                    have p1 := blk_cell hb5 1
                    have p2 := blk_cell hb5 2
                    have p3 := blk_cell hb5 3
                    have p4 := blk_cell hb5 4
                    have p5 := blk_cell hb5 5
                    go_wp2_with fail
                    clear p0 p1 p2 p3 p4 p5
                    refine (msame_any (k) f t 0 0 (some ⟨g2, 0, none⟩) 1 1 [itK] (k) f t 0 0 (some ⟨g2, 0, none⟩) 1 1 [itK] w5 hr5 hr5 (by omega) (by omega)).mono ?_
                    rintro e w6 ⟨rfl, hu6⟩
                    rw [HSM.out]
                    go_wp2_with fail
                    refine (awake20_any w6).mono ?_
                    rintro e w7 ⟨rfl, hu7⟩
                    go_wp2_with fail
                    go_ret
                    exact ⟨rfl, (hup5.trans hu6).trans hu7⟩
                · go_enter Try.func3, Try.ntmps3
                  go_wp2_with fail
                  rw [← HW.out]
                  clear HW
                  generalize w.heap.size + 1 = g2 at hb1 hr1 ⊢
                  generalize w.heap.size = g1 at hb1 ⊢
                  have HPE : Hid (mputE (k) f t 0 0 [itK] = 1) := by
                    show _ = _
                    unfold mputE; rw [HMB.out]; rfl
                  have hsm : sameM (k) f t 0 0 [itK] (k) f t 0 0 [itK] = true := by unfold sameM; simp
                  have HSM := Lib.hid hsm
                  clear hsm
                  refine (mput_any none 0 0 [] (k) f t 0 0 (some ⟨g2, 0, none⟩) 1 1 [itK] (w1) Rd.empty (by omega) hr1 (by omega)).mono ?_
                  rintro e w4 ⟨P, pn, pc, rfl, hoP, hu4⟩
                  rw [HPE.out]
                  have hb4 := (hu4.block _ (Array.getElem?_eq_some_iff.1 hb1).1).trans hb1
                  have hr4 := hr1.up hu4
                  have hup4 := hu1.trans hu4
                  clear hb1 hr1 hu1 hu4 hoP
                  have p0 := blk_cell hb4 0
                  have p1 := blk_cell hb4 1
                  have p2 := blk_cell hb4 2
                  have p3 := blk_cell hb4 3
                  have p4 := blk_cell hb4 4
                  have p5 := blk_cell hb4 5
                  go_wp2_with fail
                  clear p0 p1 p2 p3 p4 p5
                  refine (mok_any (k) f t 0 0 (some ⟨g2, 0, none⟩) 1 1 [itK] w4 hr4 (by omega)).mono ?_
                  rintro e w5 ⟨rfl, hu5⟩
                  rw [HMB.out]
                  have hb5 := (hu5.block _ (Array.getElem?_eq_some_iff.1 hb4).1).trans hb4
                  have hr5 := hr4.up hu5
                  have hup5 := hup4.trans hu5
                  clear hb4 hr4 hup4 hu5
                  have p0 := blk_cell hb5 0
                  have p1 := blk_cell hb5 1
                  have p2 := blk_cell hb5 2
                  have p3 := blk_cell hb5 3
                  have p4 := blk_cell hb5 4
                  have p5 := blk_cell hb5 5
                  go_wp2_with fail
                  clear p0 p1 p2 p3 p4 p5
                  refine (msame_any (k) f t 0 0 (some ⟨g2, 0, none⟩) 1 1 [itK] (k) f t 0 0 (some ⟨g2, 0, none⟩) 1 1 [itK] w5 hr5 hr5 (by omega) (by omega)).mono ?_
                  rintro e w6 ⟨rfl, hu6⟩
                  rw [HSM.out]
                  go_wp2_with fail
                  refine (awake20_any w6).mono ?_
                  rintro e w7 ⟨rfl, hu7⟩
                  go_wp2_with fail
                  go_ret
                  exact ⟨rfl, (hup5.trans hu6).trans hu7⟩
              · go_enter Try.func3, Try.ntmps3
                go_wp2_with fail
                rw [← HW.out]
                clear HW
                generalize w.heap.size + 1 = g2 at hb1 hr1 ⊢
                generalize w.heap.size = g1 at hb1 ⊢
                have HPE : Hid (mputE (k) f t 0 0 [itK] = 1) := by
                  show _ = _
                  unfold mputE; rw [HMB.out]; rfl
                have hsm : sameM (k) f t 0 0 [itK] (k) f t 0 0 [itK] = true := by unfold sameM; simp
                have HSM := Lib.hid hsm
                clear hsm
                refine (mput_any none 0 0 [] (k) f t 0 0 (some ⟨g2, 0, none⟩) 1 1 [itK] (w1) Rd.empty (by omega) hr1 (by omega)).mono ?_
                rintro e w4 ⟨P, pn, pc, rfl, hoP, hu4⟩
                rw [HPE.out]
                have hb4 := (hu4.block _ (Array.getElem?_eq_some_iff.1 hb1).1).trans hb1
                have hr4 := hr1.up hu4
                have hup4 := hu1.trans hu4
                clear hb1 hr1 hu1 hu4 hoP
                have p0 := blk_cell hb4 0
                have p1 := blk_cell hb4 1
                have p2 := blk_cell hb4 2
                have p3 := blk_cell hb4 3
                have p4 := blk_cell hb4 4
                have p5 := blk_cell hb4 5
                go_wp2_with fail
                clear p0 p1 p2 p3 p4 p5
                refine (mok_any (k) f t 0 0 (some ⟨g2, 0, none⟩) 1 1 [itK] w4 hr4 (by omega)).mono ?_
                rintro e w5 ⟨rfl, hu5⟩
                rw [HMB.out]
                have hb5 := (hu5.block _ (Array.getElem?_eq_some_iff.1 hb4).1).trans hb4
                have hr5 := hr4.up hu5
                have hup5 := hup4.trans hu5
                clear hb4 hr4 hup4 hu5
                have p0 := blk_cell hb5 0
                have p1 := blk_cell hb5 1
                have p2 := blk_cell hb5 2
                have p3 := blk_cell hb5 3
                have p4 := blk_cell hb5 4
                have p5 := blk_cell hb5 5
                go_wp2_with fail
                clear p0 p1 p2 p3 p4 p5
                refine (msame_any (k) f t 0 0 (some ⟨g2, 0, none⟩) 1 1 [itK] (k) f t 0 0 (some ⟨g2, 0, none⟩) 1 1 [itK] w5 hr5 hr5 (by omega) (by omega)).mono ?_
                rintro e w6 ⟨rfl, hu6⟩
                rw [HSM.out]
                go_wp2_with fail
                refine (awake20_any w6).mono ?_
                rintro e w7 ⟨rfl, hu7⟩
                go_wp2_with fail
                go_ret
                exact ⟨rfl, (hup5.trans hu6).trans hu7⟩
            · go_enter Try.func3, Try.ntmps3
              go_wp2_with fail
              rw [← HW.out]
              clear HW
              generalize w.heap.size + 1 = g2 at hb1 hr1 ⊢
              generalize w.heap.size = g1 at hb1 ⊢
              have HPE : Hid (mputE (k) f t 0 0 [itK] = 1) := by
                show _ = _
                unfold mputE; rw [HMB.out]; rfl
              have hsm : sameM (k) f t 0 0 [itK] (k) f t 0 0 [itK] = true := by unfold sameM; simp
              have HSM := Lib.hid hsm
              clear hsm
              refine (mput_any none 0 0 [] (k) f t 0 0 (some ⟨g2, 0, none⟩) 1 1 [itK] (w1) Rd.empty (by omega) hr1 (by omega)).mono ?_
              rintro e w4 ⟨P, pn, pc, rfl, hoP, hu4⟩
              rw [HPE.out]
              have hb4 := (hu4.block _ (Array.getElem?_eq_some_iff.1 hb1).1).trans hb1
              have hr4 := hr1.up hu4
              have hup4 := hu1.trans hu4
              clear hb1 hr1 hu1 hu4 hoP
              have p0 := blk_cell hb4 0
              have p1 := blk_cell hb4 1
              have p2 := blk_cell hb4 2
              have p3 := blk_cell hb4 3
              have p4 := blk_cell hb4 4
              have p5 := blk_cell hb4 5
              go_wp2_with fail
              clear p0 p1 p2 p3 p4 p5
              refine (mok_any (k) f t 0 0 (some ⟨g2, 0, none⟩) 1 1 [itK] w4 hr4 (by omega)).mono ?_
              rintro e w5 ⟨rfl, hu5⟩
              rw [HMB.out]
              have hb5 := (hu5.block _ (Array.getElem?_eq_some_iff.1 hb4).1).trans hb4
              have hr5 := hr4.up hu5
              have hup5 := hup4.trans hu5
              clear hb4 hr4 hup4 hu5
              have p0 := blk_cell hb5 0
              have p1 := blk_cell hb5 1
              have p2 := blk_cell hb5 2
              have p3 := blk_cell hb5 3
              have p4 := blk_cell hb5 4
              have p5 := blk_cell hb5 5
              go_wp2_with fail
              clear p0 p1 p2 p3 p4 p5
              refine (msame_any (k) f t 0 0 (some ⟨g2, 0, none⟩) 1 1 [itK] (k) f t 0 0 (some ⟨g2, 0, none⟩) 1 1 [itK] w5 hr5 hr5 (by omega) (by omega)).mono ?_
              rintro e w6 ⟨rfl, hu6⟩
              rw [HSM.out]
              go_wp2_with fail
              refine (awake20_any w6).mono ?_
              rintro e w7 ⟨rfl, hu7⟩
              go_wp2_with fail
              go_ret
              exact ⟨rfl, (hup5.trans hu6).trans hu7⟩
end Go.Proofs.Ytnbdijifhimogaa.msgKinds
