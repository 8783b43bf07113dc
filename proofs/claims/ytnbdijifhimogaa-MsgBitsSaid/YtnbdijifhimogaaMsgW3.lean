/-
  The walks of msg.Same and of the document's SameMsg.
-/
import Derived.Test.YtnbdijifhimogaaMsgW2
namespace Go.Proofs.Ytnbdijifhimogaa
open Go.RowKit
set_option linter.unusedVariables false
set_option linter.unusedSimpArgs false

def sameM (k f t : Int) (id n : Nat) (l : List It) (k' f' t' : Int) (id' n' : Nat) (l' : List It) : Bool := decide (k = k' ∧ f = f' ∧ t = t' ∧ id = id' ∧ n = n' ∧ l = l')
set_option maxRecDepth 100000 in
set_option maxHeartbeats 4000000 in
theorem msame_any (k f t : Int) (id n : Nat) (A : Option Addr) (an ac : Nat) (l : List It) (k' f' t' : Int) (id' n' : Nat) (A' : Option Addr) (an' ac' : Nat) (l' : List It) (w : World)
    (ha : Rd w w.heap.size 5 A an (itcs l)) (ha' : Rd w w.heap.size 5 A' an' (itcs l')) (han : an ≤ 1099511627776) (han' : an' ≤ 1099511627776) :
    Calls Try.prog 10 #[.agg #[.int .i64 k, .int .i64 f, .int .i64 t, .int .u64 (id : Int), .int .u64 (n : Int), .slice A an ac], .agg #[.int .i64 k', .int .i64 f', .int .i64 t', .int .u64 (id' : Int), .int .u64 (n' : Int), .slice A' an' ac']] w
      fun e w' => e = .returned (.bool (sameM k f t id n l k' f' t' id' n' l')) ∧ Up w w' := by
  have hv : sameM k f t id n l k' f' t' id' n' l' = decide (k = k' ∧ f = f' ∧ t = t' ∧ id = id' ∧ n = n' ∧ l = l') := rfl
  have HV := Lib.hid hv
  clear hv
  obtain ⟨w2, hw2⟩ : ∃ w2, w2 = (w.alloc (.cells #[.int .i64 k, .int .i64 f, .int .i64 t, .int .u64 (id : Int), .int .u64 (n : Int), .slice A an ac] 25)).alloc (.cells #[.int .i64 k', .int .i64 f', .int .i64 t', .int .u64 (id' : Int), .int .u64 (n' : Int), .slice A' an' ac'] 25) := ⟨_, rfl⟩
  have hup : Up w w2 := by rw [hw2]; exact ((Up.refl w).alloc _).alloc _
  have HW := Lib.hid hw2
  clear hw2
  have ha2 := ha.up hup
  have ha2' := ha'.up hup
  clear ha ha'
  by_cases k1 : k = k'
  · subst k1
    by_cases k2 : f = f'
    · subst k2
      by_cases k3 : t = t'
      · subst k3
        by_cases k4 : id = id'
        · subst k4
          by_cases k5 : n = n'
          · subst k5
            go_enter Try.func10, Try.ntmps10
            go_wp2_with fail
            rw [← HW.out]
            refine (equalS_any A an ac l A' an' ac' l' w2 ha2 ha2' han han').mono ?_
            rintro e w3 ⟨rfl, hu3⟩
            obtain ⟨q, hq⟩ : ∃ q, q = decide (l = l') := ⟨_, rfl⟩
            rw [← hq]
            have hv2 : sameM k f t id n l k f t id n l' = q := by rw [HV.out, hq]; simp
            have HV2 := Lib.hid hv2
            clear hq hv2 HV HW
            go_wp2_with fail
            go_ret
            exact ⟨retb HV2.out.symm, hup.trans hu3⟩
          · have b : ((n : Int) == (n' : Int)) = false := by simp; omega
            go_enter Try.func10, Try.ntmps10
            go_wp2_with fail
            rw [← HW.out]
            go_ret
            refine ⟨retb ?_, hup⟩
            rw [HV.out, decide_eq_false (by rintro ⟨-, -, -, -, h, -⟩; exact k5 h)]
        · have b : ((id : Int) == (id' : Int)) = false := by simp; omega
          go_enter Try.func10, Try.ntmps10
          go_wp2_with fail
          rw [← HW.out]
          go_ret
          refine ⟨retb ?_, hup⟩
          rw [HV.out, decide_eq_false (by rintro ⟨-, -, -, h, -⟩; exact k4 h)]
      · have b : (t == t') = false := by simp [k3]
        go_enter Try.func10, Try.ntmps10
        go_wp2_with fail
        rw [← HW.out]
        go_ret
        refine ⟨retb ?_, hup⟩
        rw [HV.out, decide_eq_false (by rintro ⟨-, -, h, -⟩; exact k3 h)]
    · have b : (f == f') = false := by simp [k2]
      go_enter Try.func10, Try.ntmps10
      go_wp2_with fail
      rw [← HW.out]
      go_ret
      refine ⟨retb ?_, hup⟩
      rw [HV.out, decide_eq_false (by rintro ⟨-, h, -⟩; exact k2 h)]
  · have b : (k == k') = false := by simp [k1]
    go_enter Try.func10, Try.ntmps10
    go_wp2_with fail
    rw [← HW.out]
    go_ret
    refine ⟨retb ?_, hup⟩
    rw [HV.out, decide_eq_false (by rintro ⟨h, -⟩; exact k1 h)]
set_option maxRecDepth 100000 in
set_option maxHeartbeats 4000000 in
theorem rmsame_any (k f t : Int) (id n : Nat) (A : Option Addr) (an ac : Nat) (l : List It) (k' f' t' : Int) (id' n' : Nat) (A' : Option Addr) (an' ac' : Nat) (l' : List It) (w : World)
    (ha : Rd w w.heap.size 5 A an (itcs l)) (ha' : Rd w w.heap.size 5 A' an' (itcs l')) (han : an ≤ 1099511627776) (han' : an' ≤ 1099511627776) :
    Calls Try.prog 14 #[.agg #[.int .i64 k, .int .i64 f, .int .i64 t, .int .u64 (id : Int), .int .u64 (n : Int), .slice A an ac], .agg #[.int .i64 k', .int .i64 f', .int .i64 t', .int .u64 (id' : Int), .int .u64 (n' : Int), .slice A' an' ac']] w
      fun e w' => e = .returned (.bool (sameM k f t id n l k' f' t' id' n' l')) ∧ Up w w' := by
  have hv : sameM k f t id n l k' f' t' id' n' l' = decide (k = k' ∧ f = f' ∧ t = t' ∧ id = id' ∧ n = n' ∧ l = l') := rfl
  have HV := Lib.hid hv
  clear hv
  obtain ⟨w2, hw2⟩ : ∃ w2, w2 = (w.alloc (.cells #[.int .i64 k, .int .i64 f, .int .i64 t, .int .u64 (id : Int), .int .u64 (n : Int), .slice A an ac] 25)).alloc (.cells #[.int .i64 k', .int .i64 f', .int .i64 t', .int .u64 (id' : Int), .int .u64 (n' : Int), .slice A' an' ac'] 25) := ⟨_, rfl⟩
  have hup : Up w w2 := by rw [hw2]; exact ((Up.refl w).alloc _).alloc _
  have HW := Lib.hid hw2
  clear hw2
  have ha2 := ha.up hup
  have ha2' := ha'.up hup
  clear ha ha'
  by_cases k1 : k = k'
  · subst k1
    by_cases k2 : f = f'
    · subst k2
      by_cases k3 : t = t'
      · subst k3
        by_cases k4 : id = id'
        · subst k4
          by_cases k5 : n = n'
          · subst k5
            go_enter Try.func14, Try.ntmps14
            go_wp2_with fail
            rw [← HW.out]
            refine (requal_any A an ac l A' an' ac' l' w2 ha2 ha2' han han').mono ?_
            rintro e w3 ⟨rfl, hu3⟩
            obtain ⟨q, hq⟩ : ∃ q, q = decide (l = l') := ⟨_, rfl⟩
            rw [← hq]
            have hv2 : sameM k f t id n l k f t id n l' = q := by rw [HV.out, hq]; simp
            have HV2 := Lib.hid hv2
            clear hq hv2 HV HW
            go_wp2_with fail
            go_ret
            exact ⟨retb HV2.out.symm, hup.trans hu3⟩
          · have b : ((n : Int) == (n' : Int)) = false := by simp; omega
            go_enter Try.func14, Try.ntmps14
            go_wp2_with fail
            rw [← HW.out]
            go_ret
            refine ⟨retb ?_, hup⟩
            rw [HV.out, decide_eq_false (by rintro ⟨-, -, -, -, h, -⟩; exact k5 h)]
        · have b : ((id : Int) == (id' : Int)) = false := by simp; omega
          go_enter Try.func14, Try.ntmps14
          go_wp2_with fail
          rw [← HW.out]
          go_ret
          refine ⟨retb ?_, hup⟩
          rw [HV.out, decide_eq_false (by rintro ⟨-, -, -, h, -⟩; exact k4 h)]
      · have b : (t == t') = false := by simp [k3]
        go_enter Try.func14, Try.ntmps14
        go_wp2_with fail
        rw [← HW.out]
        go_ret
        refine ⟨retb ?_, hup⟩
        rw [HV.out, decide_eq_false (by rintro ⟨-, -, h, -⟩; exact k3 h)]
    · have b : (f == f') = false := by simp [k2]
      go_enter Try.func14, Try.ntmps14
      go_wp2_with fail
      rw [← HW.out]
      go_ret
      refine ⟨retb ?_, hup⟩
      rw [HV.out, decide_eq_false (by rintro ⟨-, h, -⟩; exact k2 h)]
  · have b : (k == k') = false := by simp [k1]
    go_enter Try.func14, Try.ntmps14
    go_wp2_with fail
    rw [← HW.out]
    go_ret
    refine ⟨retb ?_, hup⟩
    rw [HV.out, decide_eq_false (by rintro ⟨h, -⟩; exact k1 h)]
end Go.Proofs.Ytnbdijifhimogaa
