/-
  The walks of num: Take.
-/
import Derived.Test.YtnbdijifhimogaaNumW1
namespace Go.Proofs.Ytnbdijifhimogaa
open Go.RowKit
set_option linter.unusedVariables false

set_option maxRecDepth 100000 in
set_option maxHeartbeats 400000 in
theorem take_any (A : Option Addr) (n c : Nat) (bs : List UInt8) (w : World) (hr : Rd w w.heap.size 1 A n (bvs bs)) (hn : n ≤ 9223372036854775807) :
    Calls Try.prog 26 #[.slice A n c] w fun e w' => e = .returned (.tuple #[.int .u64 ((takeL bs).1 : Int), .int .i64 ((takeL bs).2.1 : Int), .int .i64 ((takeL bs).2.2 : Int)]) ∧ w = w' := by
  go_enter Try.func26, Try.ntmps26
  go_wp2
  go_loop [2, 9] (fun q i => ∃ (k acc : Nat), i = .int .i64 (k : Int) ∧ q = .int .u64 (acc : Int) ∧ k ≤ n ∧ k ≤ 9 ∧ acc < 128 ^ k ∧ Hid (takeGo (bs.drop k) k acc = takeL bs)) (fun _ i => n - (intOf i).toNat)
  case atStart => exact ⟨0, 0, rfl, rfl, by omega, by omega, by simp, rfl⟩
  case round =>
    obtain ⟨k, acc, rfl, rfl, hk, hk9, hacc, ht⟩ := hrel
    by_cases hlt : k < n
    · obtain ⟨b, o, rfl, _, hc⟩ := hr.byte hlt
      have hbl : k < bs.length := by have := hr.len; simp only [bvs_length] at this; omega
      have htg : takeGo (bs.drop k) k acc = takeGo (bs.getD k 0 :: bs.drop (k + 1)) k acc := by
        rw [List.drop_eq_getElem_cons hbl]; simp [List.getD, hbl]
      generalize (bs.getD k 0) = ch at hc htg
      have HT : Hid (takeGo (ch :: bs.drop (k + 1)) k acc = takeL bs) := htg.symm.trans ht.out
      clear htg ht hr
      have HZ := Lib.hid (byte0 ch)
      by_cases h9 : k = 9
      · subst h9
        go_wp2
        all_goals (first | have hz := HZ.out.1 (by assumption) | have hz := HZ.out.2 (by assumption) | skip)
        all_goals first
          | (go_ret3; rw [← HT.out, takeGo_form (by omega)]; exact ⟨rfl, rfl⟩)
          | (go_ret3; rw [← HT.out, takeGo_end (by omega) (by omega)]; exact ⟨by rw [← take_val9 hacc (by omega)]; rfl, rfl⟩)
      · go_wp2
        all_goals (first | have hz := HZ.out.1 (by assumption) | have hz := HZ.out.2 (by assumption) | skip)
        all_goals first
          | (go_ret3; rw [← HT.out, takeGo_form (by omega)]; exact ⟨rfl, rfl⟩)
          | (go_ret3; rw [← HT.out, takeGo_end (by omega) (by omega)]; exact ⟨by rw [← take_val (by omega) hacc (by omega)]; rfl, rfl⟩)
          | (go_round
             case rel => exact ⟨k + 1, _, by go_num, congrArg _ (take_val (by omega) hacc (by omega)), by omega, by omega, take_step hacc, (takeGo_more (by omega) (by omega)).symm.trans HT.out⟩
             case measure => simp [intOf]; omega)
    · go_wp2
      go_ret3
      have hk' : k = n := by omega
      rw [← ht.out, List.drop_of_length_le (by have := hr.len; simp only [bvs_length] at this; omega)]
      exact ⟨rfl, rfl⟩

end Go.Proofs.Ytnbdijifhimogaa
