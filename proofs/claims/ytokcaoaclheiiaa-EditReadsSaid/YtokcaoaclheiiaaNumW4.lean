/-
  The walks of num: List, Unlist.
-/
import Derived.Test.YtokcaoaclheiiaaNumW3
namespace Go.Proofs.Ytokcaoaclheiiaa
open Go.RowKit
set_option linter.unusedVariables false

set_option maxRecDepth 100000 in
set_option maxHeartbeats 400000 in
theorem list_any (A : Option Addr) (n c : Nat) (bs : List UInt8) (Q : Option Addr) (m d : Nat) (q : List UInt64) (w : World) (hr : Rd w w.heap.size 1 A n (bvs bs)) (hq : Rd w w.heap.size 1 Q m (qvs q)) (hn : n + 10 * m + 10 ≤ 1099511627776) :
    Calls Try.prog 46 #[.slice A n c, .slice Q m d] w fun e w' => ∃ A' n' c', e = .returned (.slice A' n' c') ∧ OwnB w' w.heap.size A' n' c' (bs ++ listB q) ∧ Up w w' := by
  have hl := hr.blen
  have hm := hq.qlen
  have HL := Lib.hid hl
  have HM := Lib.hid hm
  clear hl hm
  go_enter Try.func46, Try.ntmps46
  go_wp2_with fail
  refine (put_any A n c bs m w hr (by omega) (by omega)).mono ?_
  rintro e w1 ⟨A1, n1, c1, rfl, ho1, hu1⟩
  go_wp2_with fail
  go_loopw [5, 15] (fun v i wr => ∃ (k : Nat) (A' : Option Addr) (n' c' : Nat), i = .int .i64 (k : Int) ∧ v = .slice A' n' c' ∧ k ≤ m ∧ n' ≤ n + 10 * k + 10 ∧ OwnB wr w.heap.size A' n' c' (bs ++ numB m ++ numsB (q.take k)) ∧ Up w wr)
    (fun _ i _ => m - (intOf i).toNat)
  case atStart =>
    refine ⟨0, A1, n1, c1, rfl, rfl, by omega, ?_, by simpa [numsB] using ho1, hu1⟩
    have h1 := ho1.len
    have h2 := numB_ten (n := m) (by omega)
    have h3 := HL.out
    simp only [List.length_append] at h1; omega
  case round =>
    obtain ⟨k, A', n', c', rfl, rfl, hk, hn', hown, hu⟩ := hrel
    clear ho1 hu1
    by_cases hlt : k < m
    · obtain ⟨b, o, rfl, hb, hc⟩ := hq.num hlt
      have hc' := (hu.cell (p := ⟨b, o + k, none⟩) hb).trans hc
      clear hc
      have hqk : q.take (k + 1) = q.take k ++ [q.getD k 0] := by
        have : k < q.length := by have := HM.out; omega
        rw [List.take_succ_eq_append_getElem this]; simp [List.getD, this]
      generalize (q.getD k 0) = x at hc' hqk
      have HQ := Lib.hid hqk
      clear hqk
      have hx := x.toNat_lt
      go_wp2_with fail
      refine (put_any A' n' c' _ x.toNat wr hown.rd (by omega) (by omega)).mono ?_
      rintro e w2 ⟨A2, n2, c2, rfl, ho2, hu2⟩
      go_wp2_with fail
      go_roundw
      case rel =>
        refine ⟨k + 1, A2, n2, c2, by go_num, rfl, by omega, ?_, ?_, hu.trans hu2⟩
        · have h1 := ho2.len
          have h2 := numB_ten hx
          have h3 := hown.len
          rw [List.length_append] at h1; omega
        · rw [HQ.out, numsB_snoc, ← List.append_assoc]
          exact own_base ho2 hu.size
      case measure => simp [intOf]; omega
    · go_wp2
      go_ret
      have hk' : k = m := by omega
      rw [hk', List.take_of_length_le (by have := HM.out; omega), HM.out] at hown
      exact ⟨A', n', c', rfl, by rw [listB, ← List.append_assoc]; exact hown, hu⟩
end Go.Proofs.Ytokcaoaclheiiaa
