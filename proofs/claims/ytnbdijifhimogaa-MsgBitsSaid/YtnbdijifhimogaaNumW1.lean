/-
  The walks of num: Put.
-/
import Derived.Test.YtnbdijifhimogaaNum
namespace Go.Proofs.Ytnbdijifhimogaa
open Go.RowKit
set_option linter.unusedVariables false


theorem or128 : ∀ k, k < 256 → bits .or .u8 ((k : Nat) : Int) 128 = ((k % 128 + 128 : Nat) : Int) := by decide +kernel
theorem put_byte (m : Nat) : Value.int .u8 (bits BinOp.or IntKind.u8 ((m : Int) % 256) 128) = bv (UInt8.ofNat (m % 128 + 128)) := by
  rw [bv_ofNat, show ((m : Int) % 256) = ((m % 256 : Nat) : Int) by omega, or128 _ (Nat.mod_lt _ (by decide))]
  congr 1; omega

set_option maxRecDepth 100000 in
set_option maxHeartbeats 400000 in
theorem put_any (A : Option Addr) (n c : Nat) (bs : List UInt8) (x : Nat) (w : World) (hr : Rd w w.heap.size 1 A n (bvs bs)) (hn : n ≤ 1099511627776) (hx : (x : Int) ≤ 18446744073709551615) :
    Calls Try.prog 17 #[.slice A n c, .int .u64 (x : Int)] w fun e w' => ∃ A' n' c', e = .returned (.slice A' n' c') ∧ OwnB w' w.heap.size A' n' c' (bs ++ numB x) ∧ Up w w' := by
  go_enter Try.func17, Try.ntmps17
  go_wp2_with (first
    | (at_builtin
       refine wpList_append_rd _ bytesT (World.ownsRow_nil _ w.heap.size _ _) hr (bvs_one _) (by omega) (by omega) (Nat.le_refl _) rfl rfl rfl rfl ?_
       intro v1 w1 hown1 hg1 hat1))
  have hu1 : Up w w1 := (Up.refl w).grown hg1 (by simp [Value.ownBlock])
  simp only [Nat.zero_add, List.nil_append] at hown1
  go_loopw [1, 5] (fun q v wr => ∃ (m : Nat) (pre : List UInt8), q = .int .u64 (m : Int) ∧ (m : Int) ≤ 18446744073709551615 ∧ wr.ownsRow w.heap.size 5 1 v pre.length (bvs pre) ∧ Hid (pre ++ numB m = bs ++ numB x) ∧ Up w wr)
    (fun q _ _ => (intOf q).toNat)
  case atStart => exact ⟨x, bs, rfl, by omega, by have := hr.len; simp only [bvs_length, Nat.mul_one] at this; rw [this]; exact hown1, rfl, hu1⟩
  case round =>
    obtain ⟨m, pre, rfl, hm, hown, hp, hu⟩ := hrel
    clear hown1 hu1
    have hl : pre.length + (numB m).length = n + (numB x).length := by
      have := congrArg List.length hp.out; have h2 := hr.len
      simp only [List.length_append, bvs_length, Nat.mul_one] at this h2; omega
    have hxt := numB_ten (n := x) (by omega)
    have hbd : pre.length ≤ 1099511627786 := by omega
    have HL := Lib.hid hl
    clear hl hxt hn hr
    by_cases hlt : m < 128
    · have hb : Value.int .u8 (m : Int) = bv (UInt8.ofNat m) := by rw [bv_ofNat]; congr 1; omega
      have HB := Lib.hid hb; clear hb
      go_wp2_with (at_builtin; refine wpList_append_rd _ bytesT (news := bvs [UInt8.ofNat m]) (hown.alloc _) (Rd.boxb _ _ HB.out) (bvs_one _) (by omega) (by omega) (by simp; have := hu.size; omega) rfl rfl rfl rfl ?_; intro v2 w2 hown2 hg2 hat2)
      obtain ⟨A2, c2, rfl⟩ := own_form hown2
      go_ret
      refine ⟨A2, _, c2, rfl, ?_, hu.alloc _ |>.grown hg2 (fun k hk => (hown.lt k hk).1)⟩
      show World.ownsRow _ _ _ _ _ _ _
      rw [← hp.out, bvs_append, numB_lo hlt]; exact hown2
    · have HB := Lib.hid (put_byte m)
      go_wp2_with (at_builtin; refine wpList_append_rd _ bytesT (news := bvs [UInt8.ofNat (m % 128 + 128)]) (hown.alloc _) (Rd.boxb _ _ HB.out) (bvs_one _) (by omega) (by omega) (by simp; have := hu.size; omega) rfl rfl rfl rfl ?_; intro v2 w2 hown2 hg2 hat2)
      go_roundw
      case rel =>
        refine ⟨m / 128, pre ++ [UInt8.ofNat (m % 128 + 128)], by go_num, by omega, ?_, ?_, hu.alloc _ |>.grown hg2 (fun k hk => (hown.lt k hk).1)⟩
        · rw [bvs_append, List.length_append]; exact hown2
        · show _ = _; rw [← hp.out, numB_hi hlt]; simp
      case measure => simp [intOf]; omega

end Go.Proofs.Ytnbdijifhimogaa
