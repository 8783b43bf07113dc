/-
  Plain laws of frames; the walk of the laws' own test.
-/
import Derived.Test.YtnbdijifhimogaaFrameW6
namespace Go.Proofs.Ytnbdijifhimogaa
open Go.RowKit
set_option linter.unusedVariables false
set_option linter.unusedSimpArgs false

theorem openE_seal (l : List UInt8) : openE (sealB l) = 0 := by
  have h : (sealB l).length - 4 = l.length := by rw [sealB_len]; omega
  have h2 : (sealB l).take l.length = l := by unfold sealB; rw [List.take_left]
  unfold openE
  rw [if_neg (by rw [sealB_len]; omega), h, h2, if_pos rfl]
theorem openL_seal (l : List UInt8) : openL (sealB l) = l := by
  unfold openL
  rw [if_pos (openE_seal l), sealB_len, Nat.add_sub_cancel]
  unfold sealB; rw [List.take_left]
theorem byteOf_nat (k : Nat) (h : k < 256) : (byteOf (k : Int)).toNat = k := by
  unfold byteOf
  rw [show ((k : Int) % 256).toNat = k by omega]
  simp; omega
/-- a frame that stands at the beginning is taken -/
theorem takeR_frame (k : Nat) (l rest : List UInt8) (hk1 : 1 ≤ k) (hk2 : k ≤ 100) (hl : l.length ≤ 60000) : takeR (frameB (k : Int) l ++ rest) = (0, k, l, l.length + 12) := by
  have e : frameB (k : Int) l ++ rest = sealB (headB (k : Int) l.length) ++ (sealB l ++ rest) := by simp [frameB]
  have hh : (sealB (headB (k : Int) l.length)).length = 8 := by rw [sealB_len]; rfl
  have hlen : (frameB (k : Int) l ++ rest).length = 12 + l.length + rest.length := by rw [List.length_append, frameB_len]; omega
  have h8 : (frameB (k : Int) l ++ rest).take 8 = sealB (headB (k : Int) l.length) := by rw [e, ← hh, List.take_left]
  have hd : (frameB (k : Int) l ++ rest).drop 8 = sealB l ++ rest := by rw [e, ← hh, List.drop_left]
  have g : ∀ j, j < 4 → (frameB (k : Int) l ++ rest).getD j 0 = (headB (k : Int) l.length).getD j 0 := by
    intro j hj
    rw [e]
    unfold sealB
    simp only [List.getD_eq_getElem?_getD]
    rw [List.append_assoc, List.getElem?_append_left (by simpa [headB] using hj)]
  have hN : headN (frameB (k : Int) l ++ rest) = l.length := by
    unfold headN
    rw [g 1 (by omega), g 2 (by omega), g 3 (by omega)]
    have e1 : (l.length / 65536) % 256 * 65536 + (l.length / 256) % 256 * 256 + l.length % 256 = l.length := by omega
    simpa [headB, List.getD] using e1
  have h0 : ((frameB (k : Int) l ++ rest).getD 0 0).toNat = k := by rw [g 0 (by omega)]; exact byteOf_nat k (by omega)
  unfold takeR
  have ht : (sealB l ++ rest).take (l.length + 4) = sealB l := by rw [← sealB_len l, List.take_left]
  have ht2 : (sealB l ++ rest).take l.length = l := by unfold sealB; rw [List.append_assoc, List.take_left]
  rw [if_neg (by rw [hlen]; omega), h8, openE_seal, if_neg (by simp), h0, hN, if_neg (by omega), if_neg (by rw [hlen]; omega), hd, ht, openE_seal, if_neg (by simp), ht2]
theorem takeF_frame (b : List UInt8) (k : Nat) (l rest : List UInt8) (hk1 : 1 ≤ k) (hk2 : k ≤ 100) (hl : l.length ≤ 60000) : takeF (b ++ (frameB (k : Int) l ++ rest)) (b.length : Int) = (0, k, l, ((b.length + (l.length + 12) : Nat) : Int)) := by
  unfold takeF
  rw [if_neg (by simp; omega)]
  have e : (b ++ (frameB (k : Int) l ++ rest)).drop ((b.length : Int)).toNat = frameB (k : Int) l ++ rest := by simp
  rw [e, takeR_frame k l rest hk1 hk2 hl]
  simp

end Go.Proofs.Ytnbdijifhimogaa
