/-
  The walk of the law NumSigns.
-/
import Derived.Test.YtenkamppgcgcdaaNumW6
namespace Go.Proofs.Ytenkamppgcgcdaa.numSigns
open Go.RowKit
set_option linter.unusedVariables false

theorem sign_abs (a b : Int) (h : (if a < 0 then -a else a) < (if b < 0 then -b else b)) : signN a < signN b := by
  unfold signN; repeat' split at h
  all_goals (repeat' split)
  all_goals omega
theorem sign_inj (a b : Int) (h : a ≠ b) : signN a ≠ signN b := by
  unfold signN; repeat' split
  all_goals omega

set_option maxRecDepth 100000 in
set_option maxHeartbeats 1600000 in
theorem law_any (a b : Int) (w : World) (h1 : -9223372036854775808 ≤ a ∧ a ≤ 9223372036854775807) (h2 : -9223372036854775808 ≤ b ∧ b ≤ 9223372036854775807) :
    Calls Try.prog 5 #[.int .i64 a, .int .i64 b] w fun e w' => e = .returned (.bool true) ∧ Up w w' := by
  obtain ⟨x, hx⟩ : ∃ x, a.tmod 4611686018427387904 = x := ⟨_, rfl⟩
  obtain ⟨y, hy⟩ : ∃ y, b.tmod 4611686018427387904 = y := ⟨_, rfl⟩
  have bx : -4611686018427387904 < x ∧ x < 4611686018427387904 := by
    have h1 := Int.tmod_lt_of_pos a (b := 4611686018427387904) (by decide)
    have h2 := Int.lt_tmod_of_pos a (b := 4611686018427387904) (by decide)
    omega
  have bY : -4611686018427387904 < y ∧ y < 4611686018427387904 := by
    have h1 := Int.tmod_lt_of_pos b (b := 4611686018427387904) (by decide)
    have h2 := Int.lt_tmod_of_pos b (b := 4611686018427387904) (by decide)
    omega
  obtain ⟨bx1, bx2⟩ := bx
  obtain ⟨by1, by2⟩ := bY
  clear h1 h2
  have u1 := unsign_sign x
  have z0 : signN 0 = 0 := rfl
  have SB : (signN x : Int) ≤ 18446744073709551615 := by have sb := signN_lt x (by omega) (by omega); omega
  have fin : ∀ w0 : World, Calls Try.prog 13 #[] w0 fun e w' => e = .returned (.bool true) ∧ Up w0 w' := awake_any
  have FIN := Lib.hid fin
  clear fin
  rcases Int.lt_trichotomy (if x < 0 then -x else x) (if y < 0 then -y else y) with hc | hc | hc
  · have s1 := sign_abs x y hc
    go_enter Try.func5, Try.ntmps5
    by_cases hxn : x < 0
    all_goals by_cases hyn : y < 0
    all_goals
      simp only [hxn, hyn, if_true, if_false] at hc
      go_wp2_with (first | (go_at_call 14; refine (sign_any _ _ (by omega) (by omega)).mono ?_; rintro e w' ⟨rfl, rfl⟩) | (go_at_call 15; refine (unsign_any _ _ (by omega)).mono ?_; rintro e w' ⟨rfl, rfl⟩) | (go_at_call 13; refine (FIN.out _).mono ?_; rintro e w' ⟨rfl, hup⟩))
      go_ret
      exact ⟨rfl, hup⟩
  · by_cases hxy : x = y
    · subst hxy
      go_enter Try.func5, Try.ntmps5
      by_cases hxn : x < 0
      all_goals
        go_wp2_with (first | (go_at_call 14; refine (sign_any _ _ (by omega) (by omega)).mono ?_; rintro e w' ⟨rfl, rfl⟩) | (go_at_call 15; refine (unsign_any _ _ (by omega)).mono ?_; rintro e w' ⟨rfl, rfl⟩) | (go_at_call 13; refine (FIN.out _).mono ?_; rintro e w' ⟨rfl, hup⟩))
        go_ret
        exact ⟨rfl, hup⟩
    · by_cases hxn : x < 0
      · have hyn : ¬ y < 0 := by intro hyn; simp only [hxn, hyn, if_true] at hc; omega
        simp only [hxn, hyn, if_true, if_false] at hc
        subst hc
        have s2 := sign_inj x (-x) hxy
        have s3 : ((signN x : Int) == (signN (-x) : Int)) = false := beq_eq_false_iff_ne.2 (by omega)
        go_enter Try.func5, Try.ntmps5
        go_wp2_with (first | (go_at_call 14; refine (sign_any _ _ (by omega) (by omega)).mono ?_; rintro e w' ⟨rfl, rfl⟩) | (go_at_call 15; refine (unsign_any _ _ (by omega)).mono ?_; rintro e w' ⟨rfl, rfl⟩) | (go_at_call 13; refine (FIN.out _).mono ?_; rintro e w' ⟨rfl, hup⟩))
        go_ret
        exact ⟨rfl, hup⟩
      · have hyn : y < 0 := by
          rcases Int.lt_or_le y 0 with h | h
          · exact h
          · simp only [hxn, show ¬ y < 0 by omega, if_false] at hc; omega
        simp only [hxn, hyn, if_true, if_false] at hc
        subst hc
        have s2 := sign_inj (-y) y hxy
        have s3 : ((signN (-y) : Int) == (signN y : Int)) = false := beq_eq_false_iff_ne.2 (by omega)
        go_enter Try.func5, Try.ntmps5
        go_wp2_with (first | (go_at_call 14; refine (sign_any _ _ (by omega) (by omega)).mono ?_; rintro e w' ⟨rfl, rfl⟩) | (go_at_call 15; refine (unsign_any _ _ (by omega)).mono ?_; rintro e w' ⟨rfl, rfl⟩) | (go_at_call 13; refine (FIN.out _).mono ?_; rintro e w' ⟨rfl, hup⟩))
        go_ret
        exact ⟨rfl, hup⟩
  · go_enter Try.func5, Try.ntmps5
    by_cases hxn : x < 0
    all_goals by_cases hyn : y < 0
    all_goals
      simp only [hxn, hyn, if_true, if_false] at hc
      go_wp2_with (first | (go_at_call 14; refine (sign_any _ _ (by omega) (by omega)).mono ?_; rintro e w' ⟨rfl, rfl⟩) | (go_at_call 15; refine (unsign_any _ _ (by omega)).mono ?_; rintro e w' ⟨rfl, rfl⟩) | (go_at_call 13; refine (FIN.out _).mono ?_; rintro e w' ⟨rfl, hup⟩))
      go_ret
      exact ⟨rfl, hup⟩
end Go.Proofs.Ytenkamppgcgcdaa.numSigns
