/-
  The law FrameCuts: the walk.
-/
import Derived.Test.YtkapaklikgckgaaFrameLaw2
import Derived.Test.YtkapaklikgckgaaConv
import Derived.Test.YtkapaklikgckgaaNumLaw
namespace Go.Proofs.Ytkapaklikgckgaa.frameCuts
open Go.RowKit
set_option linter.unusedVariables false
set_option linter.unusedSimpArgs false

set_option maxRecDepth 100000 in
set_option maxHeartbeats 800000 in
theorem law_any (A : Option Addr) (n c : Nat) (ps : List Pt) (cut : Int) (w : World) (hr : IsR w A n c ps) (b1 : -9223372036854775808 ≤ cut ∧ cut ≤ 9223372036854775807) :
    Calls Try.prog 7 #[.slice A n c, .int .i64 cut] w fun e w' => e = .returned (.bool true) ∧ Up w w' := by
  have hn : n ≤ 9223372036854775807 := by have := hr.2.2; omega
  obtain ⟨C, hC, _⟩ := i64_and_le cut 65535 (by omega)
  replace hC : bits .and .i64 cut 65535 = (C : Int) := hC
  cases hok : madeOk (ptls ps) 8
  · have HMD := Lib.hid (made_no A n c ps 8 w hr hn (by omega) hok)
    clear hok hr
    go_enter Try.func7, Try.ntmps7
    go_wp2_with fail
    refine HMD.out.mono ?_
    rintro e w1 ⟨rfl, hu1⟩
    go_wp2_with (go_at_call 9; with_reducible refine (awake3_any _).mono ?_; rintro e w4 ⟨rfl, hu4⟩)
    go_ret
    exact ⟨rfl, hu1.trans hu4⟩
  · obtain ⟨L, -, hx, hm, hb, HMD⟩ := made_yes A n c ps 8 w hr hn (by omega) hok
    have hfull : (frsB 0 L).length = endAt L L.length := by unfold endAt; rw [List.take_length]
    have hsz : (tx (frsB 0 L)).size = endAt L L.length := by rw [tx_size, hfull]
    have HF := Lib.hid hfull
    clear hok hr hfull
    obtain ⟨S, hS⟩ : ∃ S, S = endAt L L.length := ⟨_, rfl⟩
    rw [← hS] at hsz hb
    have HS := Lib.hid hS
    clear hS
    obtain ⟨P, hP, hPS⟩ : ∃ P : Nat, (C : Int) % ((S : Int) + 1) = (P : Int) ∧ P ≤ S := ⟨C % (S + 1), (by rw [Int.natCast_emod]; rfl), by have := Nat.mod_lt C (show 0 < S + 1 by omega); omega⟩
    obtain ⟨M, hM⟩ : ∃ M, M = L.length := ⟨_, rfl⟩
    rw [← hM] at hm HMD
    have HM := Lib.hid hM
    clear hM
    have hS0 : ¬ ((S : Int) + 1 = 0) := by omega
    go_enter Try.func7, Try.ntmps7
    go_wp2_with fail
    refine HMD.out.mono ?_
    rintro e w1 ⟨R, rc, rfl, hown, hu1⟩
    obtain ⟨g, rfl, hE⟩ := ends_at hown rfl
    clear hown
    go_wp2_with fail
    go_loop [9] (fun i => ∃ k : Nat, i = .int .i64 (k : Int) ∧ k ≤ M ∧ Hid (endAt L k ≤ P)) (fun i => M - (intOf i).toNat)
    case atStart => exact ⟨0, rfl, by omega, by show _ ≤ _; simp [endAt, frsB]⟩
    case round =>
      obtain ⟨k, rfl, hk, hke⟩ := hrel
      by_cases hlt : k < M
      · have hc1 := hE (k + 1) (by omega) w1 (Up.refl _)
        have hlt2 : (k : Int) + 1 < (M : Int) + 1 := by omega
        by_cases hle : endAt L (k + 1) ≤ P
        · have HLE := Lib.hid hle
          have hleI : ((endAt L (k + 1) : Nat) : Int) ≤ (P : Int) := by omega
          go_wp2_with fail
          go_round
          case rel => exact ⟨k + 1, by go_num, by omega, HLE⟩
          case measure => simp [intOf]; omega
        · have hleI : ¬ ((endAt L (k + 1) : Nat) : Int) ≤ (P : Int) := by omega
          have hsp : k < L.length → P < endAt L (k + 1) := fun _ => by omega
          have hfl : (frsB 0 L).length = S := by rw [HF.out, ← HS.out]
          obtain ⟨c5, w5, hconv, hcap, hrd5, hu5, -, -⟩ := conv_b w1 (frsB 0 L)
          rw [hfl] at hconv hcap hrd5
          have hP5 : (P : Int) ≤ c5 := by omega
          have hsc := split_cut L k P (fun x hx' => by have := hx x hx'; omega) (by have := HM.out; omega) hke.out hsp (by have := HS.out; omega)
          have HSC := Lib.hid hsc
          have hke2 := hke.out
          clear hsc hfl hsp
          go_wp2_with fail
          refine (split_any _ P c5 ((frsB 0 L).take P) w5 (hrd5.bto (by omega)) (by omega) (by omega)).mono ?_
          intro e w6 h6
          rw [HSC.out] at h6
          obtain ⟨K6, kn, kc, R6, rn, rc6, ps6, rfl, hK6, hR6, hP6, hu6⟩ := h6
          have hkn : kn = k := by
            have := hK6.1
            unfold nvi at this
            rw [List.length_map, kindsL_len, Nat.mul_one] at this
            exact this.symm
          subst hkn
          clear hK6 hR6 hP6
          have hu16 := hu5.trans hu6
          have hcE := hE kn (by omega) w6 hu16
          by_cases hpe : P = endAt L kn
          · have hbE : ((P : Int) == ((endAt L kn : Nat) : Int)) = true := by rw [← hpe]; simp
            rw [if_pos hpe]
            go_wp2_with (go_at_call 9; with_reducible refine (awake3_any _).mono ?_; rintro e w7 ⟨rfl, hu7⟩)
            go_ret
            exact ⟨rfl, (hu1.trans hu16).trans hu7⟩
          · have hbE : ((P : Int) == ((endAt L kn : Nat) : Int)) = false := by rw [beq_eq_false_iff_ne]; omega
            rw [if_neg hpe]
            go_wp2_with (go_at_call 9; with_reducible refine (awake3_any _).mono ?_; rintro e w7 ⟨rfl, hu7⟩)
            go_ret
            exact ⟨rfl, (hu1.trans hu16).trans hu7⟩
      · have hkM : k = M := by omega
        have hlt2 : ¬ (k : Int) + 1 < (M : Int) + 1 := by omega
        have hsp : k < L.length → P < endAt L (k + 1) := fun h => by have := HM.out; omega
        subst hkM
        have hfl : (frsB 0 L).length = S := by rw [HF.out, ← HS.out]
        obtain ⟨c5, w5, hconv, hcap, hrd5, hu5, -, -⟩ := conv_b w1 (frsB 0 L)
        rw [hfl] at hconv hcap hrd5
        have hP5 : (P : Int) ≤ c5 := by omega
        have hsc := split_cut L k P (fun x hx' => by have := hx x hx'; omega) (by have := HM.out; omega) hke.out hsp (by have := HS.out; omega)
        have HSC := Lib.hid hsc
        have hke2 := hke.out
        clear hsc hfl hsp
        go_wp2_with fail
        refine (split_any _ P c5 ((frsB 0 L).take P) w5 (hrd5.bto (by omega)) (by omega) (by omega)).mono ?_
        intro e w6 h6
        rw [HSC.out] at h6
        obtain ⟨K6, kn, kc, R6, rn, rc6, ps6, rfl, hK6, hR6, hP6, hu6⟩ := h6
        have hkn : kn = k := by
          have := hK6.1
          unfold nvi at this
          rw [List.length_map, kindsL_len, Nat.mul_one] at this
          exact this.symm
        subst hkn
        clear hK6 hR6 hP6
        have hu16 := hu5.trans hu6
        have hcE := hE kn (by omega) w6 hu16
        by_cases hpe : P = endAt L kn
        · have hbE : ((P : Int) == ((endAt L kn : Nat) : Int)) = true := by rw [← hpe]; simp
          rw [if_pos hpe]
          go_wp2_with (go_at_call 9; with_reducible refine (awake3_any _).mono ?_; rintro e w7 ⟨rfl, hu7⟩)
          go_ret
          exact ⟨rfl, (hu1.trans hu16).trans hu7⟩
        · have hbE : ((P : Int) == ((endAt L kn : Nat) : Int)) = false := by rw [beq_eq_false_iff_ne]; omega
          rw [if_neg hpe]
          go_wp2_with (go_at_call 9; with_reducible refine (awake3_any _).mono ?_; rintro e w7 ⟨rfl, hu7⟩)
          go_ret
          exact ⟨rfl, (hu1.trans hu16).trans hu7⟩
end Go.Proofs.Ytkapaklikgckgaa.frameCuts
