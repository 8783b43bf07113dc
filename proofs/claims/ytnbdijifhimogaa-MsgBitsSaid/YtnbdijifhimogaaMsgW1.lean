/-
  The walks of msg.isNode, msg.withItems, msg.Ok, and of the document's MsgOk.
-/
import Derived.Test.YtnbdijifhimogaaItemW2
import Derived.Test.YtnbdijifhimogaaItemW6
import Derived.Test.YtnbdijifhimogaaTx
import Derived.Test.YtnbdijifhimogaaRegion
namespace Go.Proofs.Ytnbdijifhimogaa
open Go.RowKit
set_option linter.unusedVariables false
set_option linter.unusedSimpArgs false

theorem retb {a b : Bool} (h : a = b) : Ending.returned (.bool a) = .returned (.bool b) := by rw [h]
def nodeB (n : Int) : Bool := decide (0 ≤ n ∧ n < 7)
def withB (k : Int) : Bool := decide (k = 1 ∨ k = 5 ∨ k = 7 ∨ k = 8)
def msgB (k f t : Int) (id n : Nat) (l : List It) : Bool := decide (1 ≤ k ∧ k ≤ 10 ∧ (0 ≤ f ∧ f < 7) ∧ (0 ≤ t ∧ t < 7) ∧ id ≤ 1099511627776 ∧ n ≤ 281474976710656 ∧ l.length ≤ 1500 ∧ (l.length = 0 ∨ withB k = true)) && l.all okB
set_option maxRecDepth 100000 in
theorem isNode_any (n : Int) (w : World) : Calls Try.prog 20 #[.int .i64 n] w fun e w' => e = .returned (.bool (nodeB n)) ∧ w = w' := by
  have hs : nodeB n = decide (0 ≤ n ∧ n < 7) := rfl
  have HS := Lib.hid hs
  clear hs
  go_enter Try.func20, Try.ntmps20
  go_wp2
  all_goals
    go_ret
    refine ⟨retb ?_, rfl⟩
    rw [HS.out, Bool.eq_iff_iff]
    clear HS
    first | omega | (simp at *; done) | (simp at *; omega)
set_option maxRecDepth 100000 in
theorem withItems_any (n : Int) (w : World) : Calls Try.prog 22 #[.int .i64 n] w fun e w' => e = .returned (.bool (withB n)) ∧ w = w' := by
  have hs : withB n = decide (n = 1 ∨ n = 5 ∨ n = 7 ∨ n = 8) := rfl
  have HS := Lib.hid hs
  clear hs
  go_enter Try.func22, Try.ntmps22
  go_wp2
  all_goals
    go_ret
    refine ⟨retb ?_, rfl⟩
    rw [HS.out, Bool.eq_iff_iff]
    clear HS
    first | omega | (simp at *; done) | (simp at *; omega)
set_option maxRecDepth 100000 in
set_option maxHeartbeats 4000000 in
theorem mok_any (k f t : Int) (id n : Nat) (A : Option Addr) (an ac : Nat) (l : List It) (w : World) (ha : Rd w w.heap.size 5 A an (itcs l)) (han : an ≤ 9223372036854775807) :
    Calls Try.prog 9 #[.agg #[.int .i64 k, .int .i64 f, .int .i64 t, .int .u64 (id : Int), .int .u64 (n : Int), .slice A an ac]] w fun e w' => e = .returned (.bool (msgB k f t id n l)) ∧ Up w w' := by
  have hl : an = l.length := ha.ilen
  have hv : msgB k f t id n l = (decide (1 ≤ k ∧ k ≤ 10 ∧ (0 ≤ f ∧ f < 7) ∧ (0 ≤ t ∧ t < 7) ∧ id ≤ 1099511627776 ∧ n ≤ 281474976710656 ∧ an ≤ 1500 ∧ (an = 0 ∨ withB k = true)) && l.all okB) := by rw [hl]; rfl
  have HV := Lib.hid hv
  clear hv hl
  obtain ⟨w1, hw1⟩ : ∃ w1, w1 = w.alloc (.cells #[.int .i64 k, .int .i64 f, .int .i64 t, .int .u64 (id : Int), .int .u64 (n : Int), .slice A an ac] 25) := ⟨_, rfl⟩
  have hup : Up w w1 := by rw [hw1]; exact (Up.refl w).alloc _
  have hb : w1.heap[w.heap.size]? = some (.cells #[.int .i64 k, .int .i64 f, .int .i64 t, .int .u64 (id : Int), .int .u64 (n : Int), .slice A an ac] 25 (0, 0)) := by rw [hw1]; exact heap_alloc_new w _
  have ha1 := ha.up hup
  have HW := Lib.hid hw1
  clear hw1 ha
  obtain ⟨bf, hbf⟩ : ∃ x, x = nodeB f := ⟨_, rfl⟩
  obtain ⟨bt, hbt⟩ : ∃ x, x = nodeB t := ⟨_, rfl⟩
  obtain ⟨bw, hbw⟩ : ∃ x, x = withB k := ⟨_, rfl⟩
  have hbf2 : bf = decide (0 ≤ f ∧ f < 7) := hbf
  have hbt2 : bt = decide (0 ≤ t ∧ t < 7) := hbt
  rw [← hbw] at HV
  have HBF := Lib.hid hbf
  have HBT := Lib.hid hbt
  have HBW := Lib.hid hbw
  clear hbf hbt hbw
  have HF := Lib.hid hbf2
  have HT := Lib.hid hbt2
  clear hbf2 hbt2
  by_cases k1 : 1 ≤ k
  · by_cases k2 : k ≤ 10
    · go_enter Try.func9, Try.ntmps9
      go_wp2_with fail
      rw [← HW.out]
      clear HW
      have q0 := blk_cell hb 0
      have q1 := blk_cell hb 1
      have q2 := blk_cell hb 2
      have q3 := blk_cell hb 3
      have q4 := blk_cell hb 4
      have q5 := blk_cell hb 5
      generalize w.heap.size = ge at *
      skip
      refine (isNode_any f w1).mono ?_
      rintro e w' ⟨rfl, rfl⟩
      rw [← HBF.out]
      cases bf
      · go_wp2_with fail
        go_ret
        refine ⟨retb ?_, hup⟩
        rw [HV.out, decide_eq_false (by have := of_decide_eq_false HF.out.symm; rintro ⟨-, -, a3, -⟩; exact this a3)]; rfl
      · have f1 := of_decide_eq_true HF.out.symm
        go_wp2_with fail
        refine (isNode_any t w1).mono ?_
        rintro e w' ⟨rfl, rfl⟩
        rw [← HBT.out]
        cases bt
        · go_wp2_with fail
          go_ret
          refine ⟨retb ?_, hup⟩
          rw [HV.out, decide_eq_false (by have := of_decide_eq_false HT.out.symm; rintro ⟨-, -, -, a3, -⟩; exact this a3)]; rfl
        · have t1 := of_decide_eq_true HT.out.symm
          by_cases k3 : id ≤ 1099511627776
          · by_cases k4 : n ≤ 281474976710656
            · by_cases k5 : an ≤ 1500
              · have d3 : ¬ (1099511627776 : Int) < (id : Int) := by omega
                have d4 : ¬ (281474976710656 : Int) < (n : Int) := by omega
                have d5 : ¬ (1500 : Int) < (an : Int) := by omega
                go_wp2_with fail
                refine (all_any A an ac l w1 ha1 (by omega)).mono ?_
                rintro e w2 ⟨rfl, hu2⟩
                have hb2 := (hu2.block _ (Array.getElem?_eq_some_iff.1 hb).1).trans hb
                clear q0 q1 q2 q3 q4 q5
                have q0 := blk_cell hb2 0
                have q5 := blk_cell hb2 5
                replace hup := hup.trans hu2
                obtain ⟨ba, hba⟩ : ∃ x, x = l.all okB := ⟨_, rfl⟩
                rw [← hba] at HV ⊢
                clear hba
                cases ba
                · go_wp2_with fail
                  go_ret
                  refine ⟨retb ?_, hup⟩
                  rw [HV.out, Bool.and_false]
                · by_cases k6 : an = 0
                  · have d6 : ((an : Int) == 0) = true := by simp; omega
                    have K6 := Lib.hid k6
                    clear k6
                    go_wp2_with fail
                    go_ret
                    refine ⟨retb ?_, hup⟩
                    rw [HV.out, decide_eq_true ⟨k1, k2, f1, t1, k3, k4, k5, .inl K6.out⟩]; rfl
                  · have d6 : ((an : Int) == 0) = false := by simp; omega
                    go_wp2_with fail
                    refine (withItems_any k w2).mono ?_
                    rintro e w' ⟨rfl, rfl⟩
                    rw [← HBW.out]
                    cases bw
                    · go_wp2_with fail
                      go_ret
                      refine ⟨retb ?_, hup⟩
                      rw [HV.out, decide_eq_false (by rintro ⟨-, -, -, -, -, -, -, a⟩; rcases a with a | a; exact k6 a; cases a)]; rfl
                    · go_wp2_with fail
                      go_ret
                      refine ⟨retb ?_, hup⟩
                      rw [HV.out, decide_eq_true ⟨k1, k2, f1, t1, k3, k4, k5, .inr (by trivial)⟩]; rfl
              · have d3 : ¬ (1099511627776 : Int) < (id : Int) := by omega
                have d4 : ¬ (281474976710656 : Int) < (n : Int) := by omega
                have d5 : (1500 : Int) < (an : Int) := by omega
                go_wp2_with fail
                go_ret
                refine ⟨retb ?_, hup⟩
                rw [HV.out, decide_eq_false (by omega)]; rfl
            · have d3 : ¬ (1099511627776 : Int) < (id : Int) := by omega
              have d4 : (281474976710656 : Int) < (n : Int) := by omega
              go_wp2_with fail
              go_ret
              refine ⟨retb ?_, hup⟩
              rw [HV.out, decide_eq_false (by omega)]; rfl
          · have d3 : (1099511627776 : Int) < (id : Int) := by omega
            go_wp2_with fail
            go_ret
            refine ⟨retb ?_, hup⟩
            rw [HV.out, decide_eq_false (by omega)]; rfl
    · go_enter Try.func9, Try.ntmps9
      go_wp2_with fail
      rw [← HW.out]
      go_ret
      refine ⟨retb ?_, hup⟩
      rw [HV.out, decide_eq_false (by omega)]; rfl
  · go_enter Try.func9, Try.ntmps9
    go_wp2_with fail
    rw [← HW.out]
    go_ret
    refine ⟨retb ?_, hup⟩
    rw [HV.out, decide_eq_false (by omega)]; rfl
set_option maxRecDepth 100000 in
set_option maxHeartbeats 4000000 in
theorem rmok_any (k f t : Int) (id n : Nat) (A : Option Addr) (an ac : Nat) (l : List It) (w : World) (ha : Rd w w.heap.size 5 A an (itcs l)) (han : an ≤ 9223372036854775807) :
    Calls Try.prog 12 #[.agg #[.int .i64 k, .int .i64 f, .int .i64 t, .int .u64 (id : Int), .int .u64 (n : Int), .slice A an ac]] w fun e w' => e = .returned (.bool (msgB k f t id n l)) ∧ Up w w' := by
  have hl : an = l.length := ha.ilen
  have hv : msgB k f t id n l = (decide (1 ≤ k ∧ k ≤ 10 ∧ (0 ≤ f ∧ f < 7) ∧ (0 ≤ t ∧ t < 7) ∧ id ≤ 1099511627776 ∧ n ≤ 281474976710656 ∧ an ≤ 1500 ∧ (an = 0 ∨ k = 1 ∨ k = 5 ∨ k = 7 ∨ k = 8)) && l.all okB) := by
    rw [hl]; unfold msgB withB; simp only [decide_eq_true_eq]
  have hbe : an ≤ 1500 → ((bytesE l : Nat) : Int) = if l.all okB then 0 else 1 := fun h => by unfold bytesE; rw [if_neg (by omega)]; cases l.all okB <;> rfl
  have HV := Lib.hid hv
  have HBE := Lib.hid hbe
  clear hv hl hbe
  obtain ⟨w1, hw1⟩ : ∃ w1, w1 = w.alloc (.cells #[.int .i64 k, .int .i64 f, .int .i64 t, .int .u64 (id : Int), .int .u64 (n : Int), .slice A an ac] 25) := ⟨_, rfl⟩
  have hup : Up w w1 := by rw [hw1]; exact (Up.refl w).alloc _
  have hb : w1.heap[w.heap.size]? = some (.cells #[.int .i64 k, .int .i64 f, .int .i64 t, .int .u64 (id : Int), .int .u64 (n : Int), .slice A an ac] 25 (0, 0)) := by rw [hw1]; exact heap_alloc_new w _
  have ha1 := ha.up hup
  have HW := Lib.hid hw1
  clear hw1 ha
  by_cases hall : 1 ≤ k ∧ k ≤ 10 ∧ (0 ≤ f ∧ f < 7) ∧ (0 ≤ t ∧ t < 7) ∧ id ≤ 1099511627776 ∧ n ≤ 281474976710656 ∧ an ≤ 1500
  · obtain ⟨m1, m2, ⟨m3, m4⟩, ⟨m5, m6⟩, m7, m8, m9⟩ := hall
    have d1 : ¬ k < 1 := by omega
    have d2 : ¬ 10 < k := by omega
    have d3 : ¬ f < 0 := by omega
    have d4 : ¬ 6 < f := by omega
    have d5 : ¬ t < 0 := by omega
    have d6 : ¬ 6 < t := by omega
    have d7 : ¬ (1099511627776 : Int) < (id : Int) := by omega
    have d8 : ¬ (281474976710656 : Int) < (n : Int) := by omega
    have d9 : ¬ (1500 : Int) < (an : Int) := by omega
    have HBE2 := HBE.out m9
    by_cases hw : an = 0 ∨ k = 1 ∨ k = 5 ∨ k = 7 ∨ k = 8
    · rw [decide_eq_true ⟨m1, m2, ⟨m3, m4⟩, ⟨m5, m6⟩, m7, m8, m9, hw⟩, Bool.true_and] at HV
      have HBX := Lib.hid HBE2
      clear HBE2 HBE
      by_cases g0 : an = 0
      · have g0i : ¬ (0 : Int) < (an : Int) := by omega
        clear g0
        go_enter Try.func12, Try.ntmps12
        go_wp2_with fail
        rw [← HW.out]
        clear HW
        have q0 := blk_cell hb 0
        have q1 := blk_cell hb 1
        have q2 := blk_cell hb 2
        have q3 := blk_cell hb 3
        have q4 := blk_cell hb 4
        have q5 := blk_cell hb 5
        generalize w.heap.size = ge at *
        skip
        refine (may_any A an ac l w1 ha1 (by omega)).mono ?_
        rintro e w2 ⟨rfl, hu2⟩
        obtain ⟨bq, hbq⟩ : ∃ x, x = l.all okB := ⟨_, rfl⟩
        rw [HBX.out, ← hbq]
        rw [← hbq] at HV
        clear hbq HBX q0 q1 q2 q3 q4 q5
        cases bq
        · have e1 : ((if (false = true) then (0 : Int) else 1)) = 1 := rfl
          rw [e1]
          go_wp2_with fail
          go_ret
          exact ⟨retb HV.out.symm, hup.trans hu2⟩
        · have e1 : ((if (true = true) then (0 : Int) else 1)) = 0 := rfl
          rw [e1]
          go_wp2_with fail
          go_ret
          exact ⟨retb HV.out.symm, hup.trans hu2⟩
      · have g0i : (0 : Int) < (an : Int) := by omega
        by_cases g1 : k = 1
        · subst g1
          go_enter Try.func12, Try.ntmps12
          go_wp2_with fail
          rw [← HW.out]
          clear HW
          have q0 := blk_cell hb 0
          have q1 := blk_cell hb 1
          have q2 := blk_cell hb 2
          have q3 := blk_cell hb 3
          have q4 := blk_cell hb 4
          have q5 := blk_cell hb 5
          generalize w.heap.size = ge at *
          skip
          refine (may_any A an ac l w1 ha1 (by omega)).mono ?_
          rintro e w2 ⟨rfl, hu2⟩
          obtain ⟨bq, hbq⟩ : ∃ x, x = l.all okB := ⟨_, rfl⟩
          rw [HBX.out, ← hbq]
          rw [← hbq] at HV
          clear hbq HBX q0 q1 q2 q3 q4 q5
          cases bq
          · have e1 : ((if (false = true) then (0 : Int) else 1)) = 1 := rfl
            rw [e1]
            go_wp2_with fail
            go_ret
            exact ⟨retb HV.out.symm, hup.trans hu2⟩
          · have e1 : ((if (true = true) then (0 : Int) else 1)) = 0 := rfl
            rw [e1]
            go_wp2_with fail
            go_ret
            exact ⟨retb HV.out.symm, hup.trans hu2⟩
        · by_cases g2 : k = 5
          · subst g2
            go_enter Try.func12, Try.ntmps12
            go_wp2_with fail
            rw [← HW.out]
            clear HW
            have q0 := blk_cell hb 0
            have q1 := blk_cell hb 1
            have q2 := blk_cell hb 2
            have q3 := blk_cell hb 3
            have q4 := blk_cell hb 4
            have q5 := blk_cell hb 5
            generalize w.heap.size = ge at *
            skip
            refine (may_any A an ac l w1 ha1 (by omega)).mono ?_
            rintro e w2 ⟨rfl, hu2⟩
            obtain ⟨bq, hbq⟩ : ∃ x, x = l.all okB := ⟨_, rfl⟩
            rw [HBX.out, ← hbq]
            rw [← hbq] at HV
            clear hbq HBX q0 q1 q2 q3 q4 q5
            cases bq
            · have e1 : ((if (false = true) then (0 : Int) else 1)) = 1 := rfl
              rw [e1]
              go_wp2_with fail
              go_ret
              exact ⟨retb HV.out.symm, hup.trans hu2⟩
            · have e1 : ((if (true = true) then (0 : Int) else 1)) = 0 := rfl
              rw [e1]
              go_wp2_with fail
              go_ret
              exact ⟨retb HV.out.symm, hup.trans hu2⟩
          · by_cases g3 : k = 7
            · subst g3
              go_enter Try.func12, Try.ntmps12
              go_wp2_with fail
              rw [← HW.out]
              clear HW
              have q0 := blk_cell hb 0
              have q1 := blk_cell hb 1
              have q2 := blk_cell hb 2
              have q3 := blk_cell hb 3
              have q4 := blk_cell hb 4
              have q5 := blk_cell hb 5
              generalize w.heap.size = ge at *
              skip
              refine (may_any A an ac l w1 ha1 (by omega)).mono ?_
              rintro e w2 ⟨rfl, hu2⟩
              obtain ⟨bq, hbq⟩ : ∃ x, x = l.all okB := ⟨_, rfl⟩
              rw [HBX.out, ← hbq]
              rw [← hbq] at HV
              clear hbq HBX q0 q1 q2 q3 q4 q5
              cases bq
              · have e1 : ((if (false = true) then (0 : Int) else 1)) = 1 := rfl
                rw [e1]
                go_wp2_with fail
                go_ret
                exact ⟨retb HV.out.symm, hup.trans hu2⟩
              · have e1 : ((if (true = true) then (0 : Int) else 1)) = 0 := rfl
                rw [e1]
                go_wp2_with fail
                go_ret
                exact ⟨retb HV.out.symm, hup.trans hu2⟩
            · obtain rfl : k = 8 := by omega
              go_enter Try.func12, Try.ntmps12
              go_wp2_with fail
              rw [← HW.out]
              clear HW
              have q0 := blk_cell hb 0
              have q1 := blk_cell hb 1
              have q2 := blk_cell hb 2
              have q3 := blk_cell hb 3
              have q4 := blk_cell hb 4
              have q5 := blk_cell hb 5
              generalize w.heap.size = ge at *
              skip
              refine (may_any A an ac l w1 ha1 (by omega)).mono ?_
              rintro e w2 ⟨rfl, hu2⟩
              obtain ⟨bq, hbq⟩ : ∃ x, x = l.all okB := ⟨_, rfl⟩
              rw [HBX.out, ← hbq]
              rw [← hbq] at HV
              clear hbq HBX q0 q1 q2 q3 q4 q5
              cases bq
              · have e1 : ((if (false = true) then (0 : Int) else 1)) = 1 := rfl
                rw [e1]
                go_wp2_with fail
                go_ret
                exact ⟨retb HV.out.symm, hup.trans hu2⟩
              · have e1 : ((if (true = true) then (0 : Int) else 1)) = 0 := rfl
                rw [e1]
                go_wp2_with fail
                go_ret
                exact ⟨retb HV.out.symm, hup.trans hu2⟩
    · have hno : ¬ (1 ≤ k ∧ k ≤ 10 ∧ (0 ≤ f ∧ f < 7) ∧ (0 ≤ t ∧ t < 7) ∧ id ≤ 1099511627776 ∧ n ≤ 281474976710656 ∧ an ≤ 1500 ∧ (an = 0 ∨ k = 1 ∨ k = 5 ∨ k = 7 ∨ k = 8)) := fun h => hw h.2.2.2.2.2.2.2
      have g0 : (0 : Int) < (an : Int) := by omega
      have g0n : 0 < an := by omega
      have g0z : ¬ an = 0 := by omega
      have g1 : ¬ k = 1 := by omega
      have g2 : ¬ k = 5 := by omega
      have g3 : ¬ k = 7 := by omega
      have g4 : ¬ k = 8 := by omega
      have b1 : (k != 1) = true := by simp [g1]
      have b2 : (k != 5) = true := by simp [g2]
      have b3 : (k != 7) = true := by simp [g3]
      have b4 : (k != 8) = true := by simp [g4]
      clear HBE HBE2
      go_enter Try.func12, Try.ntmps12
      go_wp2_with fail
      rw [← HW.out]
      go_ret
      refine ⟨retb ?_, hup⟩
      rw [HV.out, decide_eq_false hno]; rfl
  · have hno : msgB k f t id n l = false := by
      rw [HV.out, decide_eq_false (fun h => hall ⟨h.1, h.2.1, h.2.2.1, h.2.2.2.1, h.2.2.2.2.1, h.2.2.2.2.2.1, h.2.2.2.2.2.2.1⟩)]; rfl
    rw [hno]
    clear hno HV HBE
    go_enter Try.func12, Try.ntmps12
    go_wp2
    all_goals first
      | (rw [← HW.out]; go_ret; exact ⟨rfl, hup⟩)
      | (exfalso; apply hall; refine ⟨?_, ?_, ⟨?_, ?_⟩, ⟨?_, ?_⟩, ?_, ?_, ?_⟩ <;> omega)
end Go.Proofs.Ytnbdijifhimogaa
