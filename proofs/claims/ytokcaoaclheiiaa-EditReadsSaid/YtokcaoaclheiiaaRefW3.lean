/-
  The walks of the document's answers for lists of numbers, and of the law's Same.
-/
import Derived.Test.YtokcaoaclheiiaaRefW2
import Derived.Test.YtokcaoaclheiiaaNumW6
import Derived.Deep.QuietTactic
import Derived.BigQuiet
namespace Go.Proofs.Ytokcaoaclheiiaa
open Go.RowKit
set_option linter.unusedVariables false

set_option maxRecDepth 100000 in
set_option maxHeartbeats 800000 in
theorem rlist_any (A : Option Addr) (m c : Nat) (q : List UInt64) (w : World) (hq : Rd w w.heap.size 1 A m (qvs q)) (hm : m ≤ 1099511627776) :
    Calls Try.prog 37 #[.slice A m c] w fun e w' => ∃ s : ByteArray, e = .returned (.string s) ∧ Hid (s.data.toList = listB q) ∧ Up w w' := by
  have HM := Lib.hid hq.qlen
  go_enter Try.func37, Try.ntmps37
  go_wp2_with fail
  refine (rnum_any m w (by omega)).mono ?_
  rintro e w1 ⟨s1, rfl, hs1, hu1⟩
  go_wp2_with fail
  go_loopw [3, 4] (fun t i wr => ∃ (k : Nat) (s : ByteArray), i = .int .i64 (k : Int) ∧ t = .string s ∧ k ≤ m ∧ s.size ≤ 10 + 10 * k ∧ Hid (s.data.toList = numB m ++ numsB (q.take k)) ∧ Up w wr) (fun _ i _ => m - (intOf i).toNat)
  case atStart =>
    refine ⟨0, s1, rfl, rfl, by omega, ?_, ?_, hu1⟩
    · have := numB_ten (n := m) (by omega); rw [size_str hs1.out]; omega
    · show _ = _; rw [hs1.out]; simp [numsB]
  case round =>
    obtain ⟨k, s, rfl, rfl, hk, hsz, hs, hu⟩ := hrel
    clear hs1 hu1
    by_cases hlt : k < m
    · obtain ⟨b, o, rfl, hb, hc⟩ := hq.num hlt
      have hc' := (hu.cell (p := ⟨b, o + k, none⟩) hb).trans hc
      clear hc
      have hqk : q.take (k + 1) = q.take k ++ [q.getD k 0] := by
        have : k < q.length := by have := HM.out; omega
        rw [List.take_succ_eq_append_getElem this]; simp [List.getD, this]
      generalize (q.getD k 0) = x at hc' hqk
      have HQ := Lib.hid hqk
      clear hqk
      have hx := x.toNat_lt
      go_wp2_with fail
      refine (rnum_any x.toNat wr (by omega)).mono ?_
      rintro e w2 ⟨s2, rfl, hs2, hu2⟩
      have hz2 : s2.size ≤ 10 := by rw [size_str hs2.out]; exact numB_ten hx
      have hzz : ¬ (9223372036854775807 < s.size + s2.size) := by omega
      go_wp2_with fail
      go_roundw
      case rel =>
        refine ⟨k + 1, s ++ s2, by go_num, rfl, by omega, ?_, ?_, hu.trans hu2⟩
        · simp only [ByteArray.size_append]; omega
        · show _ = _
          rw [HQ.out, numsB_snoc, ← List.append_assoc, ← hs.out, ← hs2.out]
          simp [ByteArray.data_append]
      case measure => simp [intOf]; omega
    · go_wp2
      go_ret
      have hk' : k = m := by omega
      refine ⟨s, rfl, ?_, hu⟩
      show _ = _
      rw [hs.out, hk', List.take_of_length_le (by have := HM.out; omega), HM.out]; rfl
end Go.Proofs.Ytokcaoaclheiiaa
