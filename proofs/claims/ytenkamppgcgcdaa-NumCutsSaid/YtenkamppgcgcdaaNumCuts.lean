/-
  The walk of the law NumCuts.
-/
import Derived.Test.YtenkamppgcgcdaaNumW6
import Derived.Test.YtenkamppgcgcdaaNumLaw
import Derived.Test.YtenkamppgcgcdaaOpen
namespace Go.Proofs.Ytenkamppgcgcdaa.numCuts
open Go.RowKit
set_option linter.unusedVariables false

set_option maxRecDepth 100000 in
set_option maxHeartbeats 1600000 in
theorem law_any (A : Option Addr) (m c : Nat) (q : List UInt64) (cut : Int) (w : World) (h1 : IsQ w A m c q) (h2 : -9223372036854775808 ≤ cut ∧ cut ≤ 9223372036854775807) :
    Calls Try.prog 9 #[.slice A m c, .int .i64 cut] w fun e w' => e = .returned (.bool true) ∧ Up w w' := by
  obtain ⟨hq, hmc, hc⟩ := h1
  have HM := Lib.hid hq.qlen
  have FIN := Lib.hid awake_any
  by_cases hbig : 40 < m
  · go_enter Try.func9, Try.ntmps9
    go_wp2_with fail
    refine (FIN.out _).mono ?_
    rintro e w1 ⟨rfl, hu⟩
    go_wp2_with fail
    go_ret
    exact ⟨rfl, hu⟩
  · obtain ⟨K, hK, hK2⟩ := i64_and_le cut 65535 (by omega)
    have hK' : bits BinOp.and IntKind.i64 cut 65535 = (K : Int) := hK
    clear hK
    go_enter Try.func9, Try.ntmps9
    go_wp2_with fail
    refine (list_any none 0 0 [] A m c q w Rd.empty hq (by omega)).mono ?_
    rintro e w1 ⟨A1, n1, c1, rfl, ho1, hu1⟩
    rw [List.nil_append] at ho1
    have hcap := ho1.cap
    have hn1 := ho1.len
    have hp1 := listB_pos q
    have hb1 := listB_len q (by have := HM.out; omega)
    have hn1a : 1 ≤ n1 := by omega
    have hn1b : n1 ≤ 410 := by have := HM.out; omega
    have HN := Lib.hid hn1
    clear hn1 hp1 hb1
    have hne : ((n1 : Int) == 0) = false := beq_eq_false_iff_ne.2 (by omega)
    have hmod : (K : Int).tmod (n1 : Int) = ((K % n1 : Nat) : Int) := by rw [Int.tmod_eq_emod_of_nonneg (by omega)]; omega
    have hj : K % n1 < n1 := Nat.mod_lt _ (by omega)
    obtain ⟨j, hj2⟩ : ∃ j, K % n1 = j := ⟨_, rfl⟩
    rw [hj2] at hmod hj
    clear hj2
    go_wp2_with fail
    refine (unlist_any A1 j c1 ((listB q).take j) 100 w1 (ho1.rd.bto (by omega)) (by omega) (by omega) (by omega) (by omega)).mono ?_
    rintro e w2 ⟨A2, n2, c2, rfl, ho2, hu2⟩
    rw [unlist_cut q j 100 (by have := HM.out; omega) (by have := HM.out; omega) (by rw [← HN.out]; exact hj)] at ho2 ⊢
    have hn2 := ho2.len
    simp only [List.length_nil] at hn2
    subst hn2
    have h0 : ((q.length : Nat) : Int) = (m : Int) := by rw [← HM.out]
    by_cases hm0 : m = 0
    · subst hm0
      have hfull := unlist_full q [] (-1)
      have hr2 : unlistL (listB q) (-1) = ([], 1, 0) := by
        have : q = [] := List.eq_nil_of_length_eq_zero (by omega)
        subst this
        unfold listB unlistL
        rw [List.length_nil, numsB, List.flatMap_nil, List.append_nil, numB_lo (by omega)]
        decide
      have HR := Lib.hid hr2
      clear hr2 hfull h0
      go_wp2_with fail
      refine (unlist_any A1 n1 c1 (listB q) (-1) w2 (ho1.up hu2).rd (by omega) (by omega) (by omega) (by omega)).mono ?_
      rintro e w3 ⟨A3, n3, c3, rfl, ho3, hu3⟩
      rw [HR.out]
      go_wp2_with (go_at_call 13; refine (FIN.out _).mono ?_; rintro e w' ⟨rfl, hup⟩)
      go_ret
      exact ⟨rfl, ((hu1.trans hu2).trans hu3).trans hup⟩
    · have hr2 : unlistL (listB q) ((m : Int) - 1) = ([], 0, 2) := by
        have := unlist_long q [] ((m : Int) - 1) (by omega) (by omega) (by omega)
        rwa [List.append_nil] at this
      have HR := Lib.hid hr2
      clear hr2 h0
      have hb0 : ((m : Int) == 0) = false := beq_eq_false_iff_ne.2 (by omega)
      go_wp2_with fail
      refine (unlist_any A1 n1 c1 (listB q) ((m : Int) - 1) w2 (ho1.up hu2).rd (by omega) (by omega) (by omega) (by omega)).mono ?_
      rintro e w3 ⟨A3, n3, c3, rfl, ho3, hu3⟩
      rw [HR.out]
      go_wp2_with (go_at_call 13; refine (FIN.out _).mono ?_; rintro e w' ⟨rfl, hup⟩)
      go_ret
      exact ⟨rfl, ((hu1.trans hu2).trans hu3).trans hup⟩
end Go.Proofs.Ytenkamppgcgcdaa.numCuts
