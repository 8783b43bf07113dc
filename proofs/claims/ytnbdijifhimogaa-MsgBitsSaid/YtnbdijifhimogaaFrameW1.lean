/-
  The walks of sum: add, Parts, Of.
-/
import Derived.Test.YtnbdijifhimogaaBase
namespace Go.Proofs.Ytnbdijifhimogaa
open Go.RowKit
set_option linter.unusedVariables false

def crcS (n : Nat) : Nat := if n % 2 = 1 then (n / 2) ^^^ 2197175160 else n / 2
def crcN : Nat → Nat → Nat
  | 0, n => n
  | k + 1, n => crcN k (crcS n)
def crcB (n : Nat) (b : UInt8) : Nat := crcN 8 (n ^^^ b.toNat)
def addC (n : Nat) (l : List UInt8) : Nat := l.foldl crcB n

theorem u32_and_one (a : Nat) (ha : a < 4294967296) : bits .and .u32 (a : Int) 1 = ((a % 2 : Nat) : Int) := by
  rw [show (1 : Int) = ((1 : Nat) : Int) from rfl, u32_and_nat a 1 ha (by decide), Nat.and_one_is_mod]
theorem crcS_lt {n : Nat} (h : n < 4294967296) : crcS n < 4294967296 := by
  unfold crcS
  split
  · have h2 : (n / 2) ^^^ 2197175160 < 2 ^ 32 := Nat.xor_lt_two_pow (by omega) (by decide)
    omega
  · omega
theorem crcS_val (z : Nat) (hz : z < 4294967296) : bits .xor .u32 ((z : Int) / 2) (bits .and .u32 2197175160 (-bits .and .u32 (z : Int) 1 % 4294967296)) = (crcS z : Int) := by
  rw [u32_and_one z hz]
  unfold crcS
  by_cases h : z % 2 = 1
  · rw [if_pos h, h, show (-((1 : Nat) : Int)) % 4294967296 = ((4294967295 : Nat) : Int) by decide, show (2197175160 : Int) = ((2197175160 : Nat) : Int) from rfl, u32_and_nat _ _ (by decide) (by decide),
      show (z : Int) / 2 = ((z / 2 : Nat) : Int) by omega, show 2197175160 &&& 4294967295 = 2197175160 by decide, u32_xor_nat _ _ (by omega) (by decide)]
  · have h0 : z % 2 = 0 := by omega
    rw [if_neg h, h0, show (-((0 : Nat) : Int)) % 4294967296 = ((0 : Nat) : Int) by decide, show (2197175160 : Int) = ((2197175160 : Nat) : Int) from rfl, u32_and_nat _ _ (by decide) (by decide),
      show (z : Int) / 2 = ((z / 2 : Nat) : Int) by omega, show 2197175160 &&& 0 = 0 by decide, u32_xor_nat _ _ (by omega) (by decide), Nat.xor_zero]
theorem crcN_lt : ∀ (k : Nat) {n : Nat}, n < 4294967296 → crcN k n < 4294967296
  | 0, _, h => h
  | k + 1, _, h => crcN_lt k (crcS_lt h)
theorem xorB_lt {x : Nat} (b : UInt8) (h : x < 4294967296) : x ^^^ b.toNat < 4294967296 := by
  have h2 : x ^^^ b.toNat < 2 ^ 32 := Nat.xor_lt_two_pow (by omega) (by have := b.toNat_lt; omega)
  omega
theorem crcB_lt {n : Nat} (b : UInt8) (h : n < 4294967296) : crcB n b < 4294967296 := crcN_lt 8 (xorB_lt b h)
theorem addC_lt {n : Nat} (l : List UInt8) (h : n < 4294967296) : addC n l < 4294967296 := by
  induction l generalizing n with
  | nil => exact h
  | cons b l ih => exact ih (crcB_lt b h)
theorem addC_append (n : Nat) (a b : List UInt8) : addC n (a ++ b) = addC (addC n a) b := by simp [addC]

set_option maxRecDepth 100000 in
set_option maxHeartbeats 1600000 in
theorem add_any (A : Option Addr) (m c : Nat) (l : List UInt8) (n : Nat) (w : World) (hr : Rd w w.heap.size 1 A m (bvs l)) (hm : m ≤ 9223372036854775807) (hn : n < 4294967296) :
    Calls Try.prog 55 #[.int .u32 (n : Int), .slice A m c] w fun e w' => e = .returned (.int .u32 (addC n l : Int)) ∧ w = w' := by
  have HL := Lib.hid hr.blen
  have HN := Lib.hid (Eq.refl (addC n l))
  go_enter Try.func55, Try.ntmps55
  go_wp2_with fail
  go_loop [0, 9] (fun q i => ∃ (k : Nat) (x : Nat), i = .int .i64 (k : Int) ∧ q = .int .u32 (x : Int) ∧ x < 4294967296 ∧ k ≤ m ∧ Hid (addC n (l.take k) = x)) (fun _ i => m - (intOf i).toNat)
  case atStart => exact ⟨0, n, rfl, rfl, hn, by omega, rfl⟩
  case round =>
    obtain ⟨k, x, rfl, rfl, hx, hk, hH⟩ := hrel
    by_cases hlt : k < m
    · obtain ⟨b, o, rfl, hb, hc⟩ := hr.byte hlt
      have hq : l.take (k + 1) = l.take k ++ [l.getD k 0] := by
        have : k < l.length := by have := HL.out; omega
        rw [List.take_succ_eq_append_getElem this]; simp [List.getD, this]
      generalize l.getD k 0 = b0 at hc hq
      have hxb : bits .xor .u32 (x : Int) ((b0.toNat : Int) % 4294967296) = ((x ^^^ b0.toNat : Nat) : Int) := by
        have := b0.toNat_lt
        rw [Int.emod_eq_of_lt (by omega) (by omega), u32_xor_nat _ _ hx (by omega)]
      have HQ := Lib.hid hq
      have hx0 := xorB_lt b0 hx
      clear hq
      go_wp2_with fail
      clear hxb
      generalize hz0 : x ^^^ b0.toNat = z0 at *
      have HZ := Lib.hid hz0
      clear hz0
      go_loop [0, 17] (fun q j => ∃ (z : Nat) (jj : Nat), j = .int .i64 (jj : Int) ∧ q = .int .u32 (z : Int) ∧ z < 4294967296 ∧ jj ≤ 8 ∧ Hid (crcN (8 - jj) z = crcN 8 z0)) (fun _ j => 8 - (intOf j).toNat)
      case atStart => exact ⟨z0, 0, rfl, rfl, hx0, by omega, rfl⟩
      case round =>
        obtain ⟨z, jj, rfl, rfl, hz, hj, hcz⟩ := hrel
        by_cases hlt2 : jj < 8
        · have hs := crcS_val z hz
          have hsl := crcS_lt hz
          go_wp2_with fail
          clear hs
          go_round
          case rel =>
            refine ⟨crcS z, jj + 1, by go_num, rfl, hsl, by omega, ?_⟩
            show _ = _
            rw [← hcz.out, show 8 - jj = (8 - (jj + 1)) + 1 by omega]; rfl
          case measure => simp [intOf]; omega
        · have h8 : jj = 8 := by omega
          subst h8
          go_wp2_with fail
          go_round
          case rel =>
            refine ⟨k + 1, z, by go_num, rfl, hz, by omega, ?_⟩
            show _ = _
            rw [HQ.out, addC_append, hH.out]
            show crcN 8 (x ^^^ b0.toNat) = z
            rw [HZ.out, ← hcz.out]; rfl
          case measure => simp [intOf]; omega
    · go_wp2_with fail
      go_ret
      have hk' : k = l.length := by have := HL.out; omega
      rw [hk', List.take_of_length_le (Nat.le_refl _)] at hH
      rw [hH.out]
      exact ⟨rfl, rfl⟩
end Go.Proofs.Ytnbdijifhimogaa
