/-
  The walks of the document's answers for lists of numbers, and of the law's Same.
-/
import Derived.Test.YtenkamppgcgcdaaRefW2
import Derived.Deep.QuietTactic
import Derived.BigQuiet
namespace Go.Proofs.Ytenkamppgcgcdaa
open Go.RowKit
set_option linter.unusedVariables false

set_option maxRecDepth 100000 in
set_option maxHeartbeats 800000 in
theorem same_any (A B : Option Addr) (n c m d : Nat) (q : List UInt64) (w : World) (ha : Rd w w.heap.size 1 A n (qvs q)) (hb : Rd w w.heap.size 1 B m (qvs q)) (hn : n ≤ 4611686018427387903) :
    Calls Try.prog 26 #[.slice A n c, .slice B m d] w fun e w' => e = .returned (.bool true) ∧ Up w w' := by
  obtain rfl : m = n := by have := ha.qlen; have := hb.qlen; omega
  have hne : ((m : Int) != (m : Int)) = false := by simp
  go_enter Try.func26, Try.ntmps26
  go_wp2
  go_loopw [5] (fun i wr => ∃ k : Nat, i = .int .i64 (k : Int) ∧ k ≤ m ∧ Up w wr) (fun i _ => m - (intOf i).toNat)
  case atStart => exact ⟨0, rfl, by omega, Up.refl _⟩
  case round =>
    obtain ⟨k, rfl, hk, hu⟩ := hrel
    by_cases hlt : k < m
    · obtain ⟨b1, o1, rfl, hb1, hc1⟩ := ha.num hlt
      obtain ⟨b2, o2, rfl, hb2, hc2⟩ := hb.num hlt
      have hd1 := (hu.cell (p := ⟨b1, o1 + k, none⟩) hb1).trans hc1
      have hd2 := (hu.cell (p := ⟨b2, o2 + k, none⟩) hb2).trans hc2
      have hi0 : (0 : Int) ≤ (k : Int) := by omega
      have hi1 : (k : Int) < (m : Int) := by omega
      clear hc1 hc2 ha hb
      go_wp2_with fail
      go_quiet (fail)
      go_wp2_with fail
      go_roundw
      case rel => exact ⟨k + 1, by go_num, by omega, hu.drewN _⟩
      case measure => simp [intOf]; omega
    · go_wp2
      go_ret
      exact ⟨rfl, hu⟩

set_option maxRecDepth 100000 in
set_option maxHeartbeats 800000 in
theorem rlist_any (A : Option Addr) (m c : Nat) (q : List UInt64) (w : World) (hq : Rd w w.heap.size 1 A m (qvs q)) (hm : m ≤ 1099511627776) :
    Calls Try.prog 25 #[.slice A m c] w fun e w' => ∃ s : ByteArray, e = .returned (.string s) ∧ Hid (s.data.toList = listB q) ∧ Up w w' := by
  have HM := Lib.hid hq.qlen
  go_enter Try.func25, Try.ntmps25
  go_wp2_with fail
  refine (rnum_any m w (by omega)).mono ?_
  rintro e w1 ⟨s1, rfl, hs1, hu1⟩
  go_wp2_with fail
  go_loopw [3, 4] (fun t i wr => ∃ (k : Nat) (s : ByteArray), i = .int .i64 (k : Int) ∧ t = .string s ∧ k ≤ m ∧ s.size ≤ 10 + 10 * k ∧ Hid (s.data.toList = numB m ++ numsB (q.take k)) ∧ Up w wr) (fun _ i _ => m - (intOf i).toNat)
  case atStart =>
    refine ⟨0, s1, rfl, rfl, by omega, ?_, ?_, hu1⟩
    · have := numB_ten (n := m) (by omega); rw [size_str hs1.out]; omega
    · show _ = _; rw [hs1.out]; simp [numsB]
  case round =>
    obtain ⟨k, s, rfl, rfl, hk, hsz, hs, hu⟩ := hrel
    clear hs1 hu1
    by_cases hlt : k < m
    · obtain ⟨b, o, rfl, hb, hc⟩ := hq.num hlt
      have hc' := (hu.cell (p := ⟨b, o + k, none⟩) hb).trans hc
      clear hc
      have hqk : q.take (k + 1) = q.take k ++ [q.getD k 0] := by
        have : k < q.length := by have := HM.out; omega
        rw [List.take_succ_eq_append_getElem this]; simp [List.getD, this]
      generalize (q.getD k 0) = x at hc' hqk
      have HQ := Lib.hid hqk
      clear hqk
      have hx := x.toNat_lt
      go_wp2_with fail
      refine (rnum_any x.toNat wr (by omega)).mono ?_
      rintro e w2 ⟨s2, rfl, hs2, hu2⟩
      have hz2 : s2.size ≤ 10 := by rw [size_str hs2.out]; exact numB_ten hx
      have hzz : ¬ (9223372036854775807 < s.size + s2.size) := by omega
      go_wp2_with fail
      go_roundw
      case rel =>
        refine ⟨k + 1, s ++ s2, by go_num, rfl, by omega, ?_, ?_, hu.trans hu2⟩
        · simp only [ByteArray.size_append]; omega
        · show _ = _
          rw [HQ.out, numsB_snoc, ← List.append_assoc, ← hs.out, ← hs2.out]
          simp [ByteArray.data_append]
      case measure => simp [intOf]; omega
    · go_wp2
      go_ret
      have hk' : k = m := by omega
      refine ⟨s, rfl, ?_, hu⟩
      show _ = _
      rw [hs.out, hk', List.take_of_length_le (by have := HM.out; omega), HM.out]; rfl
end Go.Proofs.Ytenkamppgcgcdaa
