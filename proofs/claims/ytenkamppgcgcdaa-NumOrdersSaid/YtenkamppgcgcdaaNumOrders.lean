/-
  The walk of the law NumOrders.
-/
import Derived.Test.YtenkamppgcgcdaaNumW6
import Derived.Test.YtenkamppgcgcdaaNumLaw
import Derived.Deep.RegionHeld3
namespace Go.Proofs.Ytenkamppgcgcdaa.numOrders
open Go.RowKit
set_option linter.unusedVariables false

set_option maxRecDepth 100000 in
set_option maxHeartbeats 1600000 in
/-- behind the exchange: the first is at most the second -/
theorem core (a b x y : Nat) (hxy : x ≤ y) (hy : (y : Int) ≤ 18446744073709551615) (hab : (a ≤ b ∧ a = x ∧ b = y) ∨ (b < a ∧ a = y ∧ b = x)) (w : World) :
    Calls Try.prog 6 #[.int .u64 (a : Int), .int .u64 (b : Int)] w fun e w' => e = .returned (.bool true) ∧ Up w w' := by
  have FIN := Lib.hid awake_any
  have hx : (x : Int) ≤ 18446744073709551615 := by omega
  have hle : (eightB x).length = 8 := eightB_len x
  have hlt : Op.bytesLess (eightB x) (eightB y) = decide ((x : Int) < (y : Int)) := by rw [less_eightB (by omega) (by omega)]; simp
  have heq : (eightB x == eightB y) = decide ((x : Int) = (y : Int)) := by
    by_cases h : x = y
    · subst h; simp
    · have h2 : ¬ eightB x = eightB y := fun e => h (eightB_inj (by omega) (by omega) e)
      have h3 : ¬ (x : Int) = (y : Int) := by omega
      rw [beq_eq_false_iff_ne.2 h2, decide_eq_false h3]
  have hnq : (numB x == numB y) = decide ((x : Int) = (y : Int)) := by
    by_cases h : x = y
    · subst h; simp
    · have h2 : ¬ numB x = numB y := fun e => h (numB_inj (by omega) (by omega) e)
      have h3 : ¬ (x : Int) = (y : Int) := by omega
      rw [beq_eq_false_iff_ne.2 h2, decide_eq_false h3]
  have hmono := numB_mono y x y (Nat.le_refl _) hxy
  rcases hab with ⟨h1, rfl, rfl⟩ | ⟨h1, rfl, rfl⟩
  · go_enter Try.func6, Try.ntmps6
    go_wp2_with fail
    go_region_with (first
      | (go_at_call_of 16 (Value.int IntKind.u64 (a : Int)); refine (eight_any none 0 0 [] a _ Rd.empty (by omega) (by omega)).mono ?_; rintro e w1 ⟨A1, n1, c1, rfl, ho1, hu1⟩; have hc1 : ∀ W, Up w1 W → (convert 23 9 (.slice A1 n1 c1)).run Try.prog W = .ok (.string ⟨(eightB a).toArray⟩) W := fun W hW => run_str c1 ((ho1.up hW).rd); have hr1 := Up.refl w1)
      | (go_at_call_of 16 (Value.int IntKind.u64 (b : Int)); refine (eight_any none 0 0 [] b _ Rd.empty (by omega) (by omega)).mono ?_; rintro e w2 ⟨A2, n2, c2, rfl, ho2, hu2⟩; have hc2 : ∀ W, Up w2 W → (convert 23 9 (.slice A2 n2 c2)).run Try.prog W = .ok (.string ⟨(eightB b).toArray⟩) W := fun W hW => run_str c2 ((ho2.up hW).rd); have hr2 := Up.refl w2))
    all_goals
      have hu12 : Up w w2 := ((Up.refl w).drew.trans hu1).trans hu2
      clear hc1 hc2 hr1 hr2 ho1 ho2 hu1 hu2
      go_wp2_with fail
      refine (put_any none 0 0 [] a _ Rd.empty (by omega) (by omega)).mono ?_
      rintro e w3 ⟨A3, n3, c3, rfl, ho3, hu3⟩
      go_wp2_with fail
      refine (put_any none 0 0 [] b _ Rd.empty (by omega) (by omega)).mono ?_
      rintro e w4 ⟨A4, n4, c4, rfl, ho4, hu4⟩
      have hcx := run_str c3 (ho3.up hu4).rd
      have hcy := run_str c4 ho4.rd
      simp only [List.nil_append] at hcx hcy
      have hnm : n3 ≤ n4 := by have h1 := ho3.len; have h2 := ho4.len; simp only [List.nil_append] at h1 h2; omega
      go_wp2_with (first | (go_at_call 13; refine (FIN.out _).mono ?_; rintro e w' ⟨rfl, hup⟩))
      go_ret
      exact ⟨rfl, ((hu12.trans hu3).trans hu4).trans hup⟩
  · go_enter Try.func6, Try.ntmps6
    go_wp2_with fail
    go_region_with (first
      | (go_at_call_of 16 (Value.int IntKind.u64 (b : Int)); refine (eight_any none 0 0 [] b _ Rd.empty (by omega) (by omega)).mono ?_; rintro e w1 ⟨A1, n1, c1, rfl, ho1, hu1⟩; have hc1 : ∀ W, Up w1 W → (convert 23 9 (.slice A1 n1 c1)).run Try.prog W = .ok (.string ⟨(eightB b).toArray⟩) W := fun W hW => run_str c1 ((ho1.up hW).rd); have hr1 := Up.refl w1)
      | (go_at_call_of 16 (Value.int IntKind.u64 (a : Int)); refine (eight_any none 0 0 [] a _ Rd.empty (by omega) (by omega)).mono ?_; rintro e w2 ⟨A2, n2, c2, rfl, ho2, hu2⟩; have hc2 : ∀ W, Up w2 W → (convert 23 9 (.slice A2 n2 c2)).run Try.prog W = .ok (.string ⟨(eightB a).toArray⟩) W := fun W hW => run_str c2 ((ho2.up hW).rd); have hr2 := Up.refl w2))
    all_goals
      have hu12 : Up w w2 := ((Up.refl w).drew.trans hu1).trans hu2
      clear hc1 hc2 hr1 hr2 ho1 ho2 hu1 hu2
      go_wp2_with fail
      refine (put_any none 0 0 [] b _ Rd.empty (by omega) (by omega)).mono ?_
      rintro e w3 ⟨A3, n3, c3, rfl, ho3, hu3⟩
      go_wp2_with fail
      refine (put_any none 0 0 [] a _ Rd.empty (by omega) (by omega)).mono ?_
      rintro e w4 ⟨A4, n4, c4, rfl, ho4, hu4⟩
      have hcx := run_str c3 (ho3.up hu4).rd
      have hcy := run_str c4 ho4.rd
      simp only [List.nil_append] at hcx hcy
      have hnm : n3 ≤ n4 := by have h1 := ho3.len; have h2 := ho4.len; simp only [List.nil_append] at h1 h2; omega
      go_wp2_with (first | (go_at_call 13; refine (FIN.out _).mono ?_; rintro e w' ⟨rfl, hup⟩))
      go_ret
      exact ⟨rfl, ((hu12.trans hu3).trans hu4).trans hup⟩

theorem law_any (a b : Int) (w : World) (h1 : 0 ≤ a ∧ a ≤ 18446744073709551615) (h2 : 0 ≤ b ∧ b ≤ 18446744073709551615) :
    Calls Try.prog 6 #[.int .u64 a, .int .u64 b] w fun e w' => e = .returned (.bool true) ∧ Up w w' := by
  obtain ⟨x, rfl⟩ := Int.eq_ofNat_of_zero_le h1.1
  obtain ⟨y, rfl⟩ := Int.eq_ofNat_of_zero_le h2.1
  rcases Nat.lt_or_ge y x with h | h
  · exact core x y y x (by omega) h1.2 (.inr ⟨h, rfl, rfl⟩) w
  · exact core x y x y h h2.2 (.inl ⟨h, rfl, rfl⟩) w
end Go.Proofs.Ytenkamppgcgcdaa.numOrders
