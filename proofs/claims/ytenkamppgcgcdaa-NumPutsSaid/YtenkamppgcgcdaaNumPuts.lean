/-
  The walk of the law NumPuts.
-/
import Derived.Test.YtenkamppgcgcdaaRefW2
import Derived.Test.YtenkamppgcgcdaaNumLaw
import Derived.Test.YtenkamppgcgcdaaOpen
import Derived.Deep.RegionHeld3
namespace Go.Proofs.Ytenkamppgcgcdaa.numPuts
open Go.RowKit
set_option linter.unusedVariables false

set_option maxRecDepth 100000 in
set_option maxHeartbeats 1600000 in
theorem law_any (A : Option Addr) (m c : Nat) (l : List UInt8) (n i : Int) (w : World) (h1 : IsB w A m c l) (h2 : 0 ≤ n ∧ n ≤ 18446744073709551615) (h3 : -9223372036854775808 ≤ i ∧ i ≤ 9223372036854775807) :
    Calls Try.prog 8 #[.slice A m c, .int .u64 n, .int .i64 i] w fun e w' => e = .returned (.bool true) ∧ Up w w' := by
  obtain ⟨hr, hmc, hc⟩ := h1
  obtain ⟨x, rfl⟩ := Int.eq_ofNat_of_zero_le h2.1
  have HM := Lib.hid hr.blen
  have FIN := Lib.hid awake_any
  by_cases hbig : 1000 < m
  · go_enter Try.func8, Try.ntmps8
    go_wp2_with fail
    refine (FIN.out _).mono ?_
    rintro e w1 ⟨rfl, hu⟩
    go_wp2_with fail
    go_ret
    exact ⟨rfl, hu⟩
  · have CUT := cut_from_b
    go_enter Try.func8, Try.ntmps8
    go_wp2_with fail
    refine (put_any A m c l x w hr (by omega) h2.2).mono ?_
    rintro e w1 ⟨A1, n1, c1, rfl, ho1, hu1⟩
    go_wp2_with fail
    refine (eight_any A m c l x w1 (hr.up hu1) (by omega) h2.2).mono ?_
    rintro e w2 ⟨A2, n2, c2, rfl, ho2, hu2⟩
    have hcv0 : ∀ W, Up w2 W → (convert 23 9 (.slice A1 n1 c1)).run Try.prog W = .ok (.string ⟨(l ++ numB x).toArray⟩) W ∧ (convert 23 9 (.slice A m c)).run Try.prog W = .ok (.string ⟨l.toArray⟩) W ∧ (convert 23 9 (.slice A2 n2 c2)).run Try.prog W = .ok (.string ⟨(l ++ eightB x).toArray⟩) W := fun W hW =>
      ⟨run_str c1 ((ho1.up (hu2.trans hW)).rd), run_str c (hr.up ((hu1.trans hu2).trans hW)), run_str c2 ((ho2.up hW).rd)⟩
    obtain ⟨t0, ht0⟩ : ∃ t : ByteArray, ByteArray.mk l.toArray = t := ⟨_, rfl⟩
    obtain ⟨t1, ht1⟩ : ∃ t : ByteArray, ByteArray.mk (l ++ numB x).toArray = t := ⟨_, rfl⟩
    obtain ⟨t2, ht2⟩ : ∃ t : ByteArray, ByteArray.mk (l ++ eightB x).toArray = t := ⟨_, rfl⟩
    rw [ht0, ht1, ht2] at hcv0
    have HT := Lib.hid (And.intro ht0 (And.intro ht1 ht2))
    have hz0 : t0.size ≤ 1000 := by rw [← ht0]; have := HM.out; simp [ByteArray.size]; omega
    have HCV := Lib.hid hcv0
    clear hcv0 ht0 ht1 ht2
    have e3 : ∀ s3 : ByteArray, s3.data.toList = numB x → t0 ++ s3 = t1 ∧ s3.size ≤ 10 := fun s3 h3 => by
      obtain ⟨h0, h1, _⟩ := HT.out
      refine ⟨?_, ?_⟩
      · rw [← h0, ← h1]; apply ByteArray.ext; apply Array.toList_inj.1; simp [ByteArray.data_append, h3]
      · rw [size_str h3]; exact numB_ten (by omega)
    have e4 : ∀ s4 : ByteArray, s4.data.toList = eightB x → t0 ++ s4 = t2 ∧ s4.size ≤ 10 := fun s4 h4 => by
      obtain ⟨h0, _, h2⟩ := HT.out
      refine ⟨?_, ?_⟩
      · rw [← h0, ← h2]; apply ByteArray.ext; apply Array.toList_inj.1; simp [ByteArray.data_append, h4]
      · rw [size_str h4, eightB_len]; omega
    have E3 := Lib.hid e3
    have E4 := Lib.hid e4
    clear e3 e4
    go_wp2_with fail
    go_region_held3 (fun W => (convert 23 9 (.slice A1 n1 c1)).run Try.prog W = .ok (.string t1) W ∧ (convert 23 9 (.slice A m c)).run Try.prog W = .ok (.string t0) W ∧ (convert 23 9 (.slice A2 n2 c2)).run Try.prog W = .ok (.string t2) W)
      (first | exact HCV.out _ ((Up.refl _).drew) | exact HCV.out _ (by assumption))
      (first
        | (go_at_call 20; refine (rnum_any x _ h2.2).mono ?_; rintro e w3 ⟨s3, rfl, hs3, hu3⟩; have hu23 : Up w2 w3 := (Up.refl w2).drew.trans hu3; obtain ⟨q3, z3⟩ := E3.out s3 hs3.out; have z3' : ¬ (9223372036854775807 < t0.size + s3.size) := by omega)
        | (go_at_call 21; refine (reight_any x _ h2.2).mono ?_; rintro e w4 ⟨s4, rfl, hs4, hu4⟩; have hu24 : Up w2 w4 := hu23.trans hu4; obtain ⟨q4, z4⟩ := E4.out s4 hs4.out; have z4' : ¬ (9223372036854775807 < t0.size + s4.size) := by omega))
    have hc1 := ho1.cap
    have hc2 := ho2.cap
    obtain ⟨k1, hk1⟩ : ∃ k, (numB x).length = k := ⟨_, rfl⟩
    have hn1 : n1 = m + k1 := by have h1 := ho1.len; have h2 := HM.out; rw [List.length_append] at h1; omega
    have hn2 : n2 = m + 8 := by have h1 := ho2.len; have h2 := HM.out; rw [List.length_append, eightB_len] at h1; omega
    have hm1 : m ≤ n1 := by omega
    have hm2 : m ≤ n2 := by omega
    have hm3 : n1 ≤ 1010 := by have : k1 ≤ 10 := by rw [← hk1]; exact numB_ten (by omega)
                               omega
    have hm4 : n2 ≤ 1010 := by omega
    have hkk : (n1 : Int) - (m : Int) = (k1 : Int) := by omega
    clear hn1 hn2
    have hx : x < 18446744073709551616 := by omega
    have d1 : takeL ((l ++ numB x).drop m) = (x, k1, 0) := by
      rw [HM.out, List.drop_left, ← hk1]
      have := takeL_numB x [] hx
      rwa [List.append_nil] at this
    have d2 : uneightL ((l ++ eightB x).drop m) = (x, 0) := by rw [HM.out, List.drop_left]; exact uneightL_eightB x hx
    have D1 := Lib.hid d1
    have D2 := Lib.hid d2
    have R1 := Lib.hid ((ho1.up (hu2.trans hu24)).rd.bfrom (k := m) (cap := c1) (by omega) hc1)
    have R2 := Lib.hid ((ho2.up hu24).rd.bfrom (k := m) (cap := c2) (by omega) hc2)
    have hk1b : k1 ≤ 10 := by rw [← hk1]; exact numB_ten hx
    have hxi : (x : Int) ≤ 18446744073709551615 := h2.2
    clear hx d1 d2 hk1 h2 q3 q4 z3 z4 z3' z4' hc
    obtain ⟨h31, h32⟩ := h3
    have u1 := unsign_sign i
    have u2 := sign_unsign x
    have u3 : (signN i : Int) ≤ 18446744073709551615 := by have := signN_lt i h31 h32; omega
    have u4 := unsignZ_bd x (by omega)
    obtain ⟨u5, u6⟩ := u4
    go_wp2_with fail
    refine (take_any _ _ _ _ _ R1.out (by omega)).mono ?_
    rintro e w5 ⟨rfl, rfl⟩
    rw [D1.out]
    go_wp2_with fail
    refine (uneight_any _ _ _ _ _ R2.out (by omega) (by omega)).mono ?_
    rintro e w5 ⟨rfl, rfl⟩
    rw [D2.out]
    go_wp2_with (first | (go_at_call 14; refine (sign_any _ _ (by omega) (by omega)).mono ?_; rintro e w' ⟨rfl, rfl⟩) | (go_at_call 22; refine (rsign_any _ _ (by omega) (by omega)).mono ?_; rintro e w' ⟨rfl, rfl⟩) | (go_at_call 15; refine (unsign_any _ _ (by omega)).mono ?_; rintro e w' ⟨rfl, rfl⟩) | (go_at_call 13; refine (FIN.out _).mono ?_; rintro e w' ⟨rfl, hup⟩))
    go_ret
    exact ⟨rfl, ((hu1.trans hu2).trans hu24).trans hup⟩
end Go.Proofs.Ytenkamppgcgcdaa.numPuts
