/-
  The law FrameBounds: the walk.
-/
import Derived.Test.YtkapaklikgckgaaFrameLaw
import Derived.Test.YtkapaklikgckgaaNumLaw
namespace Go.Proofs.Ytkapaklikgckgaa.frameBounds
open Go.RowKit
set_option linter.unusedVariables false
set_option linter.unusedSimpArgs false

set_option maxRecDepth 100000 in
set_option maxHeartbeats 800000 in
theorem law_any (a b : Int) (w : World) (ha : -9223372036854775808 ≤ a ∧ a ≤ 9223372036854775807) (hb : -9223372036854775808 ≤ b ∧ b ≤ 9223372036854775807) :
    Calls Try.prog 4 #[.int .i64 a, .int .i64 b] w fun e w' => e = .returned (.bool true) ∧ Up w w' := by
  obtain ⟨K, hK, hK2⟩ := i64_and_le a 255 (by omega)
  obtain ⟨N, hN, hN2⟩ := i64_and_le b 31 (by omega)
  replace hK : bits .and .i64 a 255 = (K : Int) := hK
  replace hN : bits .and .i64 b 31 = (N : Int) := hN
  obtain ⟨M, hM⟩ : ∃ M : Nat, (N : Int) + 59985 = (M : Int) := ⟨N + 59985, by omega⟩
  have hM1 : M ≤ 60016 := by omega
  have hM0 : 59985 ≤ M := by omega
  have MK : ∀ W : World, (Instr.makeSlice 22 (.int .i64 (M : Int)) (.int .i64 (M : Int))).run Try.prog W = .ok (.slice (some ⟨W.heap.size, 0, none⟩) M M) (W.alloc (.cells (zb M) 5)) := fun W => make_b W .i64 .i64 (M : Int) (by omega) (by omega)
  clear hN2
  obtain ⟨Z, hZ⟩ : ∃ Z : List UInt8, Z = List.replicate M 0 := ⟨_, rfl⟩
  have hZl : Z.length = M := by rw [hZ]; exact List.length_replicate
  have hown : OwnB (w.alloc (.cells (zb M) 5)) w.heap.size (some ⟨w.heap.size, 0, none⟩) M M Z := by rw [hZ]; exact zb_own w (Nat.le_refl _) (by omega)
  clear hZ
  have HZ := Lib.hid hZl
  clear hZl
  have hbad : ∀ E : Nat, putE ((K : Int) - 20) M = E → E ≠ 0 → putL [] ((K : Int) - 20) Z = [] := fun E h h' => by unfold putL; rw [HZ.out, if_neg (by rw [h]; exact h')]
  have HB := Lib.hid hbad
  clear hbad
  by_cases h1 : K < 21
  · have hE : putE ((K : Int) - 20) M = 1 := by unfold putE; rw [if_pos (.inl (by omega))]
    have hL := HB.out 1 hE (by omega)
    have HE := Lib.hid hE
    have HL := Lib.hid hL
    clear hE hL
    go_enter Try.func4, Try.ntmps4
    go_wp2_with fail
    refine (put_any none 0 0 [] _ _ M _ Z _ Rd.empty hown.rd (by omega) (by omega)).mono ?_
    rintro e w1 ⟨A1, n1, c1, rfl, ho1, hu1⟩
    rw [HL.out] at ho1
    have hn1 : n1 = 0 := ho1.len
    subst hn1
    rw [HZ.out, HE.out]
    clear ho1
    go_wp2_with fail
    refine (awake3_any w1).mono ?_
    rintro e w2 ⟨rfl, hu2⟩
    go_wp2_with fail
    go_ret
    exact ⟨rfl, (((Up.refl w).alloc _).trans hu1).trans hu2⟩
  by_cases h2 : 120 < K
  · have hE : putE ((K : Int) - 20) M = 1 := by unfold putE; rw [if_pos (.inr (by omega))]
    have hL := HB.out 1 hE (by omega)
    have HE := Lib.hid hE
    have HL := Lib.hid hL
    clear hE hL
    go_enter Try.func4, Try.ntmps4
    go_wp2_with fail
    refine (put_any none 0 0 [] _ _ M _ Z _ Rd.empty hown.rd (by omega) (by omega)).mono ?_
    rintro e w1 ⟨A1, n1, c1, rfl, ho1, hu1⟩
    rw [HL.out] at ho1
    have hn1 : n1 = 0 := ho1.len
    subst hn1
    rw [HZ.out, HE.out]
    clear ho1
    go_wp2_with fail
    refine (awake3_any w1).mono ?_
    rintro e w2 ⟨rfl, hu2⟩
    go_wp2_with fail
    go_ret
    exact ⟨rfl, (((Up.refl w).alloc _).trans hu1).trans hu2⟩
  by_cases h3 : 60000 < M
  · have hE : putE ((K : Int) - 20) M = 2 := by unfold putE; rw [if_neg (by omega), if_pos (by omega)]
    have hL := HB.out 2 hE (by omega)
    have HE := Lib.hid hE
    have HL := Lib.hid hL
    clear hE hL
    go_enter Try.func4, Try.ntmps4
    go_wp2_with fail
    refine (put_any none 0 0 [] _ _ M _ Z _ Rd.empty hown.rd (by omega) (by omega)).mono ?_
    rintro e w1 ⟨A1, n1, c1, rfl, ho1, hu1⟩
    rw [HL.out] at ho1
    have hn1 : n1 = 0 := ho1.len
    subst hn1
    rw [HZ.out, HE.out]
    clear ho1
    go_wp2_with fail
    refine (awake3_any w1).mono ?_
    rintro e w2 ⟨rfl, hu2⟩
    go_wp2_with fail
    go_ret
    exact ⟨rfl, (((Up.refl w).alloc _).trans hu1).trans hu2⟩
  · have hE : putE ((K : Int) - 20) M = 0 := by unfold putE; rw [if_neg (by omega), if_neg (by omega)]
    have ek : ((K : Int) - 20) = ((K - 20 : Nat) : Int) := by omega
    have hL : putL [] ((K : Int) - 20) Z = frameB ((K - 20 : Nat) : Int) Z := by unfold putL; rw [HZ.out, hE, if_pos rfl, ek]; rfl
    have hT := takeF_frame [] (K - 20) Z [] (by omega) (by omega) (by rw [HZ.out]; omega)
    rw [List.append_nil, List.nil_append, ← hL, HZ.out] at hT
    simp only [List.length_nil, Nat.zero_add] at hT
    have hlen : (putL [] ((K : Int) - 20) Z).length = M + 12 := by rw [hL, frameB_len, HZ.out]
    have hm : takeF (putL [] ((K : Int) - 20) Z) (-1) = (1, 0, [], 0) := by unfold takeF; rw [if_pos (.inl (by omega))]
    have hp : takeF (putL [] ((K : Int) - 20) Z) ((M : Int) + 12 + 1) = (1, 0, [], 0) := by unfold takeF; rw [if_pos (.inr (by rw [hlen]; omega))]
    have HE := Lib.hid hE
    have HT := Lib.hid hT
    have HN := Lib.hid hlen
    have HM := Lib.hid hm
    have HP := Lib.hid hp
    clear hE hL hT hlen hm hp
    have EK := Lib.hid ek
    clear ek
    go_enter Try.func4, Try.ntmps4
    go_wp2_with fail
    refine (put_any none 0 0 [] _ _ M _ Z _ Rd.empty hown.rd (by omega) (by omega)).mono ?_
    rintro e w1 ⟨A1, n1, c1, rfl, ho1, hu1⟩
    have hn1 : n1 = M + 12 := by rw [ho1.len, HN.out]
    subst hn1
    rw [HZ.out, HE.out]
    have hc1 := ho1.cap
    have hr1 := ho1.rd
    clear ho1
    generalize putL [] ((K : Int) - 20) Z = L at *
    go_wp2_with fail
    refine (ftake_any A1 (M + 12) c1 _ 0 w1 hr1 (by omega) hc1).mono ?_
    rintro e w2 ⟨A2, n2, c2, rfl, ho2, hu2⟩
    have hT0 : takeF L 0 = (0, K - 20, Z, ((M + 12 : Nat) : Int)) := HT.out
    rw [hT0] at ho2 ⊢
    have hn2 : M = n2 := by rw [ho2.len]; exact HZ.out.symm
    subst hn2
    clear ho2 hT0
    go_wp2_with fail
    refine (ftake_any A1 (M + 12) c1 _ (-1) w2 (hr1.up hu2) (by omega) hc1).mono ?_
    rintro e w3 ⟨A3, n3, c3, rfl, ho3, hu3⟩
    rw [HM.out] at ho3 ⊢
    have hn3 : n3 = 0 := by rw [ho3.len]; rfl
    subst hn3
    clear ho3
    go_wp2_with fail
    refine (ftake_any A1 (M + 12) c1 _ ((M : Int) + 12 + 1) w3 ((hr1.up hu2).up hu3) (by omega) hc1).mono ?_
    rintro e w4 ⟨A4, n4, c4, rfl, ho4, hu4⟩
    rw [HP.out] at ho4 ⊢
    clear ho4
    have hkk : (((K - 20 : Nat) : Int) == (K : Int) - 20) = true := by rw [EK.out]; simp
    clear hr1
    go_wp2_with fail
    refine (awake3_any w4).mono ?_
    rintro e w5 ⟨rfl, hu5⟩
    go_wp2_with fail
    go_ret
    exact ⟨rfl, (((((Up.refl w).alloc _).trans hu1).trans hu2).trans hu3).trans (hu4.trans hu5)⟩
end Go.Proofs.Ytkapaklikgckgaa.frameBounds
