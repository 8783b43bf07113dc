/-
  The walks of the document's answers for numbers: Num, Eight.
-/
import Derived.Test.YtpifigalaembdaaRefW1
import Derived.Laws.MakeOwn
namespace Go.Proofs.Ytpifigalaembdaa
open Go.RowKit
set_option linter.unusedVariables false

set_option maxRecDepth 100000 in
set_option maxHeartbeats 800000 in
theorem rnum_any (x : Nat) (w : World) (hx : (x : Int) ≤ 18446744073709551615) :
    Calls Try.prog 35 #[.int .u64 (x : Int)] w fun e w' => ∃ s : ByteArray, e = .returned (.string s) ∧ Hid (s.data.toList = numB x) ∧ Up w w' := by
  go_enter Try.func35, Try.ntmps35
  go_wp2
  go_loopw [0, 3] (fun q v wr => ∃ (m : Nat) (pre : List UInt8), q = .int .u64 (m : Int) ∧ (m : Int) ≤ 18446744073709551615 ∧ wr.ownsRow w.heap.size 5 1 v pre.length (bvs pre) ∧ Hid (pre ++ numB m = numB x) ∧ Up w wr)
    (fun q _ _ => (intOf q).toNat)
  case atStart => exact ⟨x, [], rfl, hx, World.ownsRow_nil _ _ _ _, rfl, Up.refl _⟩
  case round =>
    obtain ⟨m, pre, rfl, hm, hown, hp, hu⟩ := hrel
    have hbd : pre.length ≤ 10 := by
      have := congrArg List.length hp.out
      have h2 := numB_ten (n := x) (by omega)
      rw [List.length_append] at this; omega
    by_cases hlt : m < 128
    · have hb : Value.int .u8 (m : Int) = bv (UInt8.ofNat m) := by rw [bv_ofNat]; congr 1; omega
      have HB := Lib.hid hb; clear hb
      go_wp2_with (at_builtin; refine wpList_append_rd _ bytesT (news := bvs [UInt8.ofNat m]) (hown.alloc _) (Rd.boxb _ _ HB.out) (bvs_one _) (by omega) (by omega) (by simp; have := hu.size; omega) rfl rfl rfl rfl ?_; intro v2 w2 hown2 hg2 hat2; obtain ⟨A2, c2, rfl⟩ := own_form hown2; have hcv := run_str (l := pre ++ [UInt8.ofNat m]) c2 (by rw [bvs_append]; exact Rd.own hown2))
      go_ret
      refine ⟨_, rfl, ?_, hu.alloc _ |>.grown hg2 (fun k hk => (hown.lt k hk).1)⟩
      show _ = _
      rw [← hp.out, numB_lo hlt]
    · have HB := Lib.hid (put_byte m)
      go_wp2_with (at_builtin; refine wpList_append_rd _ bytesT (news := bvs [UInt8.ofNat (m % 128 + 128)]) (hown.alloc _) (Rd.boxb _ _ HB.out) (bvs_one _) (by omega) (by omega) (by simp; have := hu.size; omega) rfl rfl rfl rfl ?_; intro v2 w2 hown2 hg2 hat2)
      go_roundw
      case rel =>
        refine ⟨m / 128, pre ++ [UInt8.ofNat (m % 128 + 128)], by go_num, by omega, ?_, ?_, hu.alloc _ |>.grown hg2 (fun k hk => (hown.lt k hk).1)⟩
        · rw [bvs_append, List.length_append]; exact hown2
        · show _ = _; rw [← hp.out, numB_hi hlt]; simp
      case measure => simp [intOf]; omega

set_option maxRecDepth 100000 in
set_option maxHeartbeats 800000 in
theorem reight_any (x : Nat) (w : World) (hx : (x : Int) ≤ 18446744073709551615) :
    Calls Try.prog 34 #[.int .u64 (x : Int)] w fun e w' => ∃ s : ByteArray, e = .returned (.string s) ∧ Hid (s.data.toList = eightB x) ∧ Up w w' := by
  have MK := make_b
  go_enter Try.func34, Try.ntmps34
  go_wp2
  have ho0 := zb_own w (n := 8) (Nat.le_refl _) (by omega)
  go_loopw [4] (fun i wr => ∃ (k : Nat), i = .int .i64 (k : Int) ∧ k ≤ 8 ∧ OwnB wr w.heap.size (some ⟨w.heap.size, 0, none⟩) 8 8 ((eightB x).take k ++ List.replicate (8 - k) 0) ∧ Up w wr)
    (fun i _ => 8 - (intOf i).toNat)
  case atStart => exact ⟨0, rfl, by omega, ho0, (Up.refl _).alloc _⟩
  case round =>
    obtain ⟨k, rfl, hk, hown, hu⟩ := hrel
    clear ho0
    by_cases hlt : k < 8
    · have hel := eightB_len x
      have hcell := hown.cellAt k (by omega)
      have hfz := hown.frozenAt k
      have hst := hown.stored k (bv (UInt8.ofNat (x / 2 ^ (56 - 8 * k))))
      have hc2 : wr.cell? ⟨w.heap.size, k, none⟩ = some (.int .u8 0) := by
        rw [hcell]
        simp only [bvs, List.getElem?_map, List.getElem?_append, List.length_take, hel, Nat.min_eq_left hk, Nat.lt_irrefl, if_false, Nat.sub_self]
        rw [List.getElem?_replicate, if_pos (by omega)]
        rfl
      have hb := eight_byte x k
      rw [← hb] at hst
      have HST := Lib.hid hst
      clear hst hcell hb hel
      go_wp2
      go_roundw
      case rel =>
        refine ⟨k + 1, by go_num, by omega, ?_, hu.set_ (Nat.le_refl _) _⟩
        have h1 := HST.out.1
        show World.ownsRow _ _ _ _ _ _ _
        have e : bvs ((eightB x).take (k + 1) ++ List.replicate (8 - (k + 1)) 0) = (bvs ((eightB x).take k ++ List.replicate (8 - k) 0)).set k (Value.int .u8 ((x : Int) / 2 ^ (56 - 8 * k) % 256)) := by
          rw [eight_byte, ← eightB_step x k hlt, show 8 - k = (8 - (k + 1)) + 1 by omega, List.replicate_succ]
          have e9 : k - min k 8 = 0 := by omega
          simp only [bvs, List.map_append, List.map_cons, List.map_nil, List.append_assoc]
          rw [List.set_append_right _ _ (by simp [eightB_len]; omega)]
          simp [eightB_len, e9]
        rw [e]; exact h1
      case measure => simp [intOf]; omega
    · obtain rfl : k = 8 := by omega
      rw [List.take_of_length_le (by rw [eightB_len]; omega)] at hown
      have hcv := run_str 8 hown.rd
      simp only [Nat.sub_self, List.replicate_zero, List.append_nil] at hcv
      obtain ⟨s, hs⟩ : ∃ s : ByteArray, ByteArray.mk (eightB x).toArray = s := ⟨_, rfl⟩
      rw [hs] at hcv
      have HS : Hid (s.data.toList = eightB x) := by show _ = _; rw [← hs]
      clear hs
      go_wp2
      go_ret
      exact ⟨s, rfl, HS, hu⟩

end Go.Proofs.Ytpifigalaembdaa
