/-
  The walks of num: Sign, Unsign, Uneight, Eight.
-/
import Derived.Test.YtpifigalaembdaaNumW2
namespace Go.Proofs.Ytpifigalaembdaa
open Go.RowKit
set_option linter.unusedVariables false

theorem sign_any (n : Int) (w : World) (h1 : -9223372036854775808 ≤ n) (h2 : n ≤ 9223372036854775807) :
    Calls Try.prog 32 #[.int .i64 n] w fun e w' => e = .returned (.int .u64 (signN n : Int)) ∧ w = w' := by
  go_enter Try.func32, Try.ntmps32
  go_wp2
  go_ret
  exact ⟨by rw [← sign_val n h1 h2]; rfl, rfl⟩

theorem unsign_any (n : Nat) (w : World) (h2 : (n : Int) ≤ 18446744073709551615) :
    Calls Try.prog 43 #[.int .u64 (n : Int)] w fun e w' => e = .returned (.int .i64 (unsignZ n)) ∧ w = w' := by
  go_enter Try.func43, Try.ntmps43
  go_wp2
  go_ret
  exact ⟨by rw [← unsign_val n (by omega)]; rfl, rfl⟩


set_option maxRecDepth 100000 in
set_option maxHeartbeats 400000 in
theorem eight_any (A : Option Addr) (n c : Nat) (bs : List UInt8) (x : Nat) (w : World) (hr : Rd w w.heap.size 1 A n (bvs bs)) (hn : n ≤ 1099511627776) (hx : (x : Int) ≤ 18446744073709551615) :
    Calls Try.prog 33 #[.slice A n c, .int .u64 (x : Int)] w fun e w' => ∃ A' n' c', e = .returned (.slice A' n' c') ∧ OwnB w' w.heap.size A' n' c' (bs ++ eightB x) ∧ Up w w' := by
  go_enter Try.func33, Try.ntmps33
  go_wp2_with (first
    | (at_builtin
       refine wpList_append_rd _ bytesT (World.ownsRow_nil _ w.heap.size _ _) hr (bvs_one _) (by omega) (by omega) (Nat.le_refl _) rfl rfl rfl rfl ?_
       intro v1 w1 hown1 hg1 hat1))
  have hu1 : Up w w1 := (Up.refl w).grown hg1 (by simp [Value.ownBlock])
  simp only [Nat.zero_add, List.nil_append] at hown1
  go_loopw [5, 6] (fun v i wr => ∃ (k : Nat), i = .int .i64 (56 - 8 * (k : Int)) ∧ k ≤ 8 ∧ wr.ownsRow w.heap.size 5 1 v (n + k) (bvs (bs ++ (eightB x).take k)) ∧ Up w wr)
    (fun _ i _ => (intOf i + 8).toNat)
  case atStart => exact ⟨0, by go_num, by omega, by simpa using hown1, hu1⟩
  case round =>
    obtain ⟨k, rfl, hk, hown, hu⟩ := hrel
    clear hown1 hu1 hr
    by_cases hlt : k < 8
    · have HB := Lib.hid (eight_byte x k)
      go_wp2_with (at_builtin; refine wpList_append_rd _ bytesT (news := bvs [UInt8.ofNat (x / 2 ^ (56 - 8 * k))]) (hown.alloc _) (Rd.boxb _ _ HB.out) (bvs_one _) (by omega) (by omega) (by simp; have := hu.size; omega) rfl rfl rfl rfl ?_; intro v2 w2 hown2 hg2 hat2)
      go_roundw
      case rel =>
        refine ⟨k + 1, by go_num, by omega, ?_, hu.alloc _ |>.grown hg2 (fun k hk => (hown.lt k hk).1)⟩
        rw [← eightB_step x k hlt, ← List.append_assoc, bvs_append]; exact hown2
      case measure => simp [intOf]; omega
    · obtain ⟨A2, c2, rfl⟩ := own_form hown
      go_wp2
      go_ret
      have hk8 : k = 8 := by omega
      subst hk8
      rw [List.take_of_length_le (by rw [eightB_len]; omega)] at hown
      exact ⟨A2, _, c2, rfl, hown, hu⟩

end Go.Proofs.Ytpifigalaembdaa
