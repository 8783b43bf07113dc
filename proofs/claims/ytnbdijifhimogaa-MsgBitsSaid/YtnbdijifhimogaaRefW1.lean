/-
  The walks of the document's answers for numbers: Take, Uneight, Sign.
-/
import Derived.Test.YtnbdijifhimogaaNumW3
namespace Go.Proofs.Ytnbdijifhimogaa
open Go.RowKit
set_option linter.unusedVariables false

/-- a text's byte, as a list's -/
theorem getD_str {s : ByteArray} {l : List UInt8} (hs : s.data.toList = l) {k : Nat} (hk : k < s.size) : s[k] = l.getD k 0 := by
  subst hs
  have h : k < s.data.size := hk
  show s.data[k] = _
  simp only [List.getD, Array.getElem?_toList, Array.getElem?_eq_getElem h, Option.getD_some]
theorem size_str {s : ByteArray} {l : List UInt8} (hs : s.data.toList = l) : s.size = l.length := by subst hs; rfl

set_option maxRecDepth 100000 in
set_option maxHeartbeats 800000 in
theorem rtake_any (s : ByteArray) (l : List UInt8) (w : World) (hs : s.data.toList = l) (hn : s.size ≤ 9223372036854775807) :
    Calls Try.prog 33 #[.string s] w fun e w' => e = .returned (.tuple #[.int .u64 ((takeL l).1 : Int), .int .i64 ((takeL l).2.1 : Int), .int .i64 ((takeL l).2.2 : Int)]) ∧ w = w' := by
  have HS := Lib.hid hs
  have HZ := Lib.hid (size_str hs)
  clear hs
  go_enter Try.func33, Try.ntmps33
  go_wp2
  go_loop [5, 6] (fun q i => ∃ (k acc : Nat), i = .int .i64 (k : Int) ∧ q = .int .u64 (acc : Int) ∧ k ≤ s.size ∧ k ≤ 9 ∧ acc < 128 ^ k ∧ Hid (takeGo (l.drop k) k acc = takeL l)) (fun _ i => 10 - (intOf i).toNat)
  case atStart => exact ⟨0, 0, rfl, rfl, by omega, by omega, by simp, rfl⟩
  case round =>
    obtain ⟨k, acc, rfl, rfl, hk, hk9, hacc, ht⟩ := hrel
    by_cases hlt : k < s.size
    · have hbl : k < l.length := by have := HZ.out; omega
      have htg : takeGo (l.drop k) k acc = takeGo (l.getD k 0 :: l.drop (k + 1)) k acc := by
        rw [List.drop_eq_getElem_cons hbl]; simp [List.getD, hbl]
      have hgd := getD_str HS.out hlt
      generalize (l.getD k 0) = ch at hgd htg
      have HT : Hid (takeGo (ch :: l.drop (k + 1)) k acc = takeL l) := htg.symm.trans ht.out
      clear htg ht
      have hcb := ch.toNat_lt
      have HZ := Lib.hid (byte0 ch)
      by_cases h9 : k = 9
      · subst h9
        go_wp2_with fail
        all_goals (first | have hz := HZ.out.1 (by assumption) | have hz := HZ.out.2 (by assumption) | skip)
        all_goals first
          | (go_ret3; rw [← HT.out, takeGo_form (by omega)]; exact ⟨rfl, rfl⟩)
          | (go_ret3; rw [← HT.out, takeGo_end (by omega) (by omega)]; exact ⟨by rw [← rtake_val9 hacc (by omega)]; rfl, rfl⟩)
      · go_wp2_with fail
        all_goals (first | have hz := HZ.out.1 (by assumption) | have hz := HZ.out.2 (by assumption) | skip)
        all_goals first
          | (go_ret3; rw [← HT.out, takeGo_form (by omega)]; exact ⟨rfl, rfl⟩)
          | (go_ret3; rw [← HT.out, takeGo_end (by omega) (by omega)]; exact ⟨by rw [← rtake_val (by omega) hacc (by omega)]; rfl, rfl⟩)
          | (go_round
             case rel => exact ⟨k + 1, _, by go_num, congrArg _ (rtake_val (by omega) hacc (by omega)), by omega, by omega, take_step hacc, (takeGo_more (by omega) (by omega)).symm.trans HT.out⟩
             case measure => simp [intOf]; omega)
    · go_wp2
      go_ret3
      have hk' : k = s.size := by omega
      rw [← ht.out, List.drop_of_length_le (by have := HZ.out; omega)]
      exact ⟨rfl, rfl⟩


set_option maxRecDepth 100000 in
theorem rsign_any (n : Int) (w : World) (h1 : -9223372036854775808 ≤ n) (h2 : n ≤ 9223372036854775807) :
    Calls Try.prog 45 #[.int .i64 n] w fun e w' => e = .returned (.int .u64 (signN n : Int)) ∧ w = w' := by
  unfold signN
  by_cases hn : n < 0
  · rw [if_pos hn]
    go_enter Try.func45, Try.ntmps45
    go_wp2
    go_ret
    refine ⟨?_, rfl⟩
    show Ending.returned (.int .u64 (-(n + 1) * 2 + 1)) = _
    congr 2; omega
  · rw [if_neg hn]
    go_enter Try.func45, Try.ntmps45
    go_wp2
    go_ret
    refine ⟨?_, rfl⟩
    show Ending.returned (.int .u64 (n * 2)) = Ending.returned (.int .u64 (max n 0 * 2))
    congr 2; omega

end Go.Proofs.Ytnbdijifhimogaa
