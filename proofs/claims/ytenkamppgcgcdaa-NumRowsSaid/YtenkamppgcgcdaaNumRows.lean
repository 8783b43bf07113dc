/-
  The walk of the law NumRows.
-/
import Derived.Test.YtenkamppgcgcdaaNumW6
import Derived.Test.YtenkamppgcgcdaaNumLaw
import Derived.Test.YtenkamppgcgcdaaOpen
namespace Go.Proofs.Ytenkamppgcgcdaa.numRows
open Go.RowKit
set_option linter.unusedVariables false

set_option maxRecDepth 100000 in
set_option maxHeartbeats 1600000 in
theorem law_any (A : Option Addr) (m c : Nat) (q : List UInt64) (w : World) (h1 : IsQ w A m c q) :
    Calls Try.prog 3 #[.slice A m c] w fun e w' => e = .returned (.bool true) ∧ Up w w' := by
  obtain ⟨hq, hmc, hc⟩ := h1
  have hm : m ≤ 9223372036854775807 := by omega
  have HM := Lib.hid hq.qlen
  have FIN := Lib.hid awake_any
  obtain ⟨N, hN1, hN2, hmin⟩ : ∃ N : Nat, N ≤ m ∧ N ≤ 50 ∧ (if (50 : Int) < (m : Int) then (50 : Int) else (m : Int)) = (N : Int) := by
    by_cases h : (50 : Int) < (m : Int)
    · exact ⟨50, by omega, by omega, by rw [if_pos h]; rfl⟩
    · exact ⟨m, by omega, by omega, by rw [if_neg h]⟩
  have CUT := cut_from_b
  go_enter Try.func3, Try.ntmps3
  go_wp2_with fail
  go_loopw [3, 5] (fun v i wr => ∃ (k : Nat) (B : Option Addr) (n d : Nat), i = .int .i64 (k : Int) ∧ v = .slice B n d ∧ k ≤ N ∧ n ≤ 10 * k ∧ OwnB wr w.heap.size B n d (numsB (q.take k)) ∧ Up w wr)
    (fun _ i _ => N - (intOf i).toNat)
  case atStart => exact ⟨0, none, 0, 0, rfl, rfl, by omega, by omega, World.ownsRow_nil _ _ _ _, Up.refl _⟩
  case round =>
    obtain ⟨k, B, n, d, rfl, rfl, hk, hn, hown, hu⟩ := hrel
    by_cases hlt : k < N
    · obtain ⟨b, o, rfl, hb, hc⟩ := hq.num (k := k) (by omega)
      have hc' := (hu.cell (p := ⟨b, o + k, none⟩) hb).trans hc
      clear hc
      have hqk : q.take (k + 1) = q.take k ++ [q.getD k 0] := by
        have : k < q.length := by have := HM.out; omega
        rw [List.take_succ_eq_append_getElem this]; simp [List.getD, this]
      generalize (q.getD k 0) = x at hc' hqk
      have HQ := Lib.hid hqk
      clear hqk
      have hx := x.toNat_lt
      go_wp2_with fail
      refine (put_any B n d _ x.toNat wr hown.rd (by omega) (by omega)).mono ?_
      rintro e w2 ⟨A2, n2, c2, rfl, ho2, hu2⟩
      go_wp2_with fail
      go_roundw
      case rel =>
        refine ⟨k + 1, A2, n2, c2, by go_num, rfl, by omega, ?_, ?_, hu.trans hu2⟩
        · have h1 := ho2.len
          have h2 := numB_ten hx
          have h3 := hown.len
          rw [List.length_append] at h1; omega
        · rw [HQ.out, numsB_snoc]
          exact own_base ho2 hu.size
      case measure => simp [intOf]; omega
    · obtain rfl : k = N := by omega
      have hcap := hown.cap
      have HL := Lib.hid hown.len
      go_wp2_with fail
      go_loopw [6, 7] (fun p i ws => ∃ (k2 : Nat) (at_ : Nat), i = .int .i64 (k2 : Int) ∧ p = .int .i64 (at_ : Int) ∧ k2 ≤ k ∧ at_ ≤ n ∧ Hid (at_ = (numsB (q.take k2)).length) ∧ wr = ws)
        (fun _ i _ => k - (intOf i).toNat)
      case atStart => exact ⟨0, 0, rfl, rfl, by omega, by omega, rfl, rfl⟩
      case round =>
        obtain ⟨k2, at_, rfl, rfl, hk2, hat, hae, rfl⟩ := hrel
        have hrd := hown.rd.bfrom (k := at_) (cap := d) hat hcap
        have HR := Lib.hid hrd
        clear hrd
        by_cases hlt2 : k2 < k
        · obtain ⟨b, o, rfl, hb, hc⟩ := hq.num (k := k2) (by omega)
          have hc' := (hu.cell (p := ⟨b, o + k2, none⟩) hb).trans hc
          clear hc
          have hkl : k2 < q.length := by have := HM.out; omega
          have htk : takeL ((numsB (q.take k)).drop at_) = ((q.getD k2 0).toNat, (numB (q.getD k2 0).toNat).length, 0) := by
            have e1 : (q.take k).take k2 = q.take k2 := by rw [List.take_take, Nat.min_eq_left (by omega)]
            rw [hae.out, ← e1, numsB_drop]
            have e2 : (q.take k).drop k2 = q.getD k2 0 :: (q.take k).drop (k2 + 1) := by
              rw [List.drop_eq_getElem_cons (by simp; omega)]; simp [List.getD, hkl]
            rw [e2, numsB_cons]
            exact takeL_numB _ _ (UInt64.toNat_lt _)
          have hqk : q.take (k2 + 1) = q.take k2 ++ [q.getD k2 0] := by
            rw [List.take_succ_eq_append_getElem hkl]; simp [List.getD, hkl]
          have hbd : at_ + (numB (q.getD k2 0).toNat).length ≤ n := by
            have h3 : q.take k = q.take (k2 + 1) ++ (q.take k).drop (k2 + 1) := by
              conv => lhs; rw [← List.take_append_drop (k2 + 1) (q.take k)]
              rw [List.take_take, Nat.min_eq_left (by omega)]
            have h4 : (numsB (q.take k)).length = (numsB (q.take (k2 + 1))).length + (numsB ((q.take k).drop (k2 + 1))).length := by
              conv => lhs; rw [h3]
              unfold numsB; rw [List.flatMap_append, List.length_append]
            rw [hqk, numsB_snoc, List.length_append] at h4
            have := HL.out; have := hae.out; omega
          have hb1 := numB_pos (q.getD k2 0).toNat
          have hb2 := numB_ten (UInt64.toNat_lt (q.getD k2 0))
          have hat' : Hid (at_ + (numB (q.getD k2 0).toNat).length = (numsB (q.take (k2 + 1))).length) := by
            show _ = _
            rw [hqk, numsB_snoc, List.length_append, ← hae.out]
          have HT := Lib.hid htk
          clear htk hqk hae
          generalize q.getD k2 0 = x at HT hc' hbd hat' hb1 hb2
          generalize (numB x.toNat).length = s at HT hbd hat' hb1 hb2
          go_wp2_with fail
          refine (take_any _ _ _ _ _ HR.out (by omega)).mono ?_
          rintro e w2 ⟨rfl, rfl⟩
          rw [HT.out]
          go_wp2_with fail
          go_roundw
          case rel => exact ⟨k2 + 1, at_ + s, by go_num, by go_num, by omega, by omega, hat', trivial⟩
          case measure => simp [intOf]; omega
        · obtain rfl : k2 = k := by omega
          obtain rfl : at_ = n := by have := HL.out; have := hae.out; omega
          go_wp2_with fail
          refine (take_any _ 0 _ [] _ Rd.empty (by omega)).mono ?_
          rintro e w2 ⟨rfl, rfl⟩
          rw [takeL_nil]
          go_wp2_with fail
          refine (FIN.out _).mono ?_
          rintro e w2 ⟨rfl, hu2⟩
          go_wp2_with fail
          go_ret
          exact ⟨rfl, hu.trans hu2⟩
end Go.Proofs.Ytenkamppgcgcdaa.numRows
