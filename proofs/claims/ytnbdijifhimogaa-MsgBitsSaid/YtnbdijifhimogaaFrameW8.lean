/-
  The walks of the document's answers for sums and frames: Sum, Seal, Open, FrameOk, Frame.
-/
import Derived.Test.YtnbdijifhimogaaFrameW6
import Derived.Test.YtnbdijifhimogaaRefW1
namespace Go.Proofs.Ytnbdijifhimogaa
open Go.RowKit
set_option linter.unusedVariables false
set_option linter.unusedSimpArgs false

theorem u32_xor_poly (z : Nat) (hz : z < 4294967296) : bits .xor .u32 ((z : Int) / 2) 2197175160 = (((z / 2) ^^^ 2197175160 : Nat) : Int) := by
  rw [show (z : Int) / 2 = ((z / 2 : Nat) : Int) by omega, show (2197175160 : Int) = ((2197175160 : Nat) : Int) from rfl, u32_xor_nat _ _ (by omega) (by omega)]

set_option maxRecDepth 100000 in
set_option maxHeartbeats 1600000 in
theorem rsum_any (l : List UInt8) (w : World) (hn : l.length ≤ 9223372036854775807) :
    Calls Try.prog 53 #[.string (tx l)] w fun e w' => e = .returned (.int .u32 (sumC l : Int)) ∧ w = w' := by
  have hs := tx_list l
  have hsz : (tx l).size ≤ 9223372036854775807 := by rw [tx_size]; exact hn
  have HS := Lib.hid hs
  have HL := Lib.hid (tx_size l)
  clear hs
  generalize tx l = s at *
  go_enter Try.func53, Try.ntmps53
  go_wp2_with fail
  go_loop [3, 4, 5] (fun q i _ => ∃ (k : Nat) (x : Nat), i = .int .i64 (k : Int) ∧ q = .int .u32 (x : Int) ∧ x < 4294967296 ∧ k ≤ s.size ∧ Hid (addC 4294967295 (l.take k) = x)) (fun _ i _ => s.size - (intOf i).toNat)
  case atStart => exact ⟨0, 4294967295, rfl, rfl, by omega, by omega, rfl⟩
  case round =>
    obtain ⟨k, x, rfl, rfl, hx, hk, hH⟩ := hrel
    by_cases hlt : k < s.size
    · have hgd := getD_str HS.out hlt
      have hq : l.take (k + 1) = l.take k ++ [l.getD k 0] := by
        have : k < l.length := by have := HL.out; omega
        rw [List.take_succ_eq_append_getElem this]; simp [List.getD, this]
      generalize l.getD k 0 = b0 at hgd hq
      have hxb : bits .xor .u32 (x : Int) (b0.toNat : Int) = ((x ^^^ b0.toNat : Nat) : Int) := by
        have := b0.toNat_lt
        rw [u32_xor_nat _ _ hx (by omega)]
      have hb256 := b0.toNat_lt
      have HQ := Lib.hid hq
      have hx0 := xorB_lt b0 hx
      clear hq
      go_wp2_with fail
      clear hxb
      generalize hz0 : x ^^^ b0.toNat = z0 at *
      have HZ := Lib.hid hz0
      clear hz0
      go_loop [3, 5] (fun q j => ∃ (z : Nat) (jj : Nat), j = .int .i64 (jj : Int) ∧ q = .int .u32 (z : Int) ∧ z < 4294967296 ∧ jj ≤ 8 ∧ Hid (crcN (8 - jj) z = crcN 8 z0)) (fun _ j => 8 - (intOf j).toNat)
      case atStart => exact ⟨z0, 0, rfl, rfl, hx0, by omega, rfl⟩
      case round =>
        obtain ⟨z, jj, rfl, rfl, hz, hj, hcz⟩ := hrel
        by_cases hlt2 : jj < 8
        · have ha := u32_and_one z hz
          have hp := u32_xor_poly z hz
          have hsl := crcS_lt hz
          by_cases hodd : z % 2 = 1
          · rw [hodd] at ha
            have hcs : crcS z = (z / 2) ^^^ 2197175160 := by unfold crcS; rw [if_pos hodd]
            rw [← hcs] at hp
            have hcz2 : crcN (8 - (jj + 1)) (crcS z) = crcN 8 z0 := by rw [← hcz.out, show 8 - jj = (8 - (jj + 1)) + 1 by omega]; rfl
            have HC := Lib.hid hcz2
            clear hcz2 hcs
            generalize crcS z = y at *
            go_wp2_with fail
            go_round
            case rel => exact ⟨y, jj + 1, by go_num, rfl, hsl, by omega, HC.out⟩
            case measure => simp [intOf]; omega
          · have h0 : z % 2 = 0 := by omega
            rw [h0] at ha
            have hcs : crcS z = z / 2 := by unfold crcS; rw [if_neg hodd]
            have hcz2 : crcN (8 - (jj + 1)) (z / 2) = crcN 8 z0 := by rw [← hcz.out, show 8 - jj = (8 - (jj + 1)) + 1 by omega, ← hcs]; rfl
            have HC := Lib.hid hcz2
            clear hcz2 hcs hp
            go_wp2_with fail
            go_round
            case rel => exact ⟨z / 2, jj + 1, by go_num, by go_num, by omega, by omega, HC.out⟩
            case measure => simp [intOf]; omega
        · have h8 : jj = 8 := by omega
          subst h8
          go_wp2_with fail
          go_round
          case rel =>
            refine ⟨k + 1, z, by go_num, rfl, hz, by omega, ?_⟩
            show _ = _
            rw [HQ.out, addC_append, hH.out]
            show crcN 8 (x ^^^ b0.toNat) = z
            rw [HZ.out, ← hcz.out]; rfl
          case measure => simp [intOf]; omega
    · have hk' : k = l.length := by have := HL.out; omega
      rw [hk', List.take_of_length_le (Nat.le_refl _)] at hH
      have hnot := u32_not x hx
      have hv : sumC l = 4294967295 - x := by unfold sumC; rw [hH.out]
      have HV := Lib.hid hv
      clear hv
      go_wp2_with fail
      go_ret
      rw [HV.out]
      exact ⟨rfl, rfl⟩

theorem four_str (x0 x1 x2 x3 : Value) (l : List UInt8) (hl : [x0, x1, x2, x3] = bvs l) (W : World) (g : Nat) (h0 : W.cell? ⟨g, 0, none⟩ = some x0) (h1 : W.cell? ⟨g, 1, none⟩ = some x1) (h2 : W.cell? ⟨g, 2, none⟩ = some x2) (h3 : W.cell? ⟨g, 3, none⟩ = some x3) :
    (convert 28 9 (.slice (some ⟨g, 0, none⟩) 4 4)).run Try.prog W = .ok (.string (tx l)) W := by
  refine run_str (B := g + 1) 4 ⟨by rw [← hl]; rfl, fun _ => ⟨g, 0, rfl, by omega, fun j u hj => ?_⟩⟩
  rw [← hl] at hj
  match j with
  | 0 => simp at hj; rw [← hj, Nat.zero_add, h0]
  | 1 => simp at hj; rw [← hj, Nat.zero_add, h1]
  | 2 => simp at hj; rw [← hj, Nat.zero_add, h2]
  | 3 => simp at hj; rw [← hj, Nat.zero_add, h3]
  | j + 4 => simp at hj
theorem sumB_v (y : Nat) (hy : y < 4294967296) : ([.int .u8 ((y : Int) % 256), .int .u8 ((y : Int) / 256 % 256), .int .u8 ((y : Int) / 65536 % 256), .int .u8 ((y : Int) / 16777216)] : List Value) = bvs (sumB y) := by
  have e1 : (y : Int) % 256 = ((y % 256 : Nat) : Int) := by omega
  have e2 : (y : Int) / 256 % 256 = ((y / 256 % 256 : Nat) : Int) := by omega
  have e3 : (y : Int) / 65536 % 256 = ((y / 65536 % 256 : Nat) : Int) := by omega
  have e4 : (y : Int) / 16777216 = ((y / 16777216 % 256 : Nat) : Int) := by omega
  simp only [bvs, sumB, List.map_cons, List.map_nil, bv_ofNat, e1, e2, e3, e4]

set_option maxRecDepth 100000 in
set_option maxHeartbeats 1600000 in
theorem rseal_any (l : List UInt8) (w : World) (hn : l.length ≤ 1099511627776) :
    Calls Try.prog 44 #[.string (tx l)] w fun e w' => e = .returned (.string (tx (sealB l))) ∧ Up w w' := by
  have hy := sumC_lt l
  have hb := sumB_v (sumC l) hy
  have hv : tx l ++ tx (sumB (sumC l)) = tx (sealB l) := tx_append' _ _
  have hz1 := tx_size l
  have hz2 := tx_size (sumB (sumC l))
  have hsl := sumB_len (sumC l)
  have hsz : ¬ (9223372036854775807 < (tx l).size + (tx (sumB (sumC l))).size) := by omega
  have FS := four_str _ _ _ _ _ hb
  have HV := Lib.hid hv
  clear hb hz1 hz2 hsl hv
  go_enter Try.func44, Try.ntmps44
  go_wp2_with fail
  refine (rsum_any l w (by omega)).mono ?_
  rintro e w1 ⟨rfl, rfl⟩
  generalize sumC l = y at *
  have hc : ∀ j, (w.alloc (.cells #[.int .u8 ((y : Int) % 256), .int .u8 ((y : Int) / 256 % 256), .int .u8 ((y : Int) / 65536 % 256), .int .u8 ((y : Int) / 16777216)] 5)).cell? ⟨w.heap.size, j, none⟩ = #[Value.int .u8 ((y : Int) % 256), .int .u8 ((y : Int) / 256 % 256), .int .u8 ((y : Int) / 65536 % 256), .int .u8 ((y : Int) / 16777216)][j]? := fun j => World.cell?_alloc_at _ _ _ _ rfl
  have FS1 := FS _ _ (hc 0) (hc 1) (hc 2) (hc 3)
  clear FS hc
  go_wp2_with fail
  go_ret
  rw [HV.out]
  exact ⟨rfl, (Up.refl _).alloc _⟩

theorem tx_take (l : List UInt8) (n : Nat) : (tx l).extract 0 n = tx (l.take n) := tx_of (by simp [tx_list])
set_option maxRecDepth 100000 in
set_option maxHeartbeats 1600000 in
theorem ropen_any (l : List UInt8) (w : World) (hn : l.length ≤ 1099511627776) :
    Calls Try.prog 46 #[.string (tx l)] w fun e w' => e = .returned (.tuple #[.string (tx (openL l)), .int .i64 (openE l : Int)]) ∧ Up w w' := by
  have hz := tx_size l
  by_cases h4 : l.length < 4
  · have hE : openE l = 4 := by unfold openE; rw [if_pos h4]
    have hL : openL l = [] := by unfold openL; rw [hE]; rfl
    have HE := Lib.hid hE
    have HO := Lib.hid hL
    clear hE hL
    have h4' : (tx l).size < 4 := by omega
    clear hz
    go_enter Try.func46, Try.ntmps46
    go_wp2_with fail
    go_ret2
    rw [HE.out, HO.out]
    exact ⟨rfl, Up.refl _⟩
  · have hx := tx_take l (l.length - 4)
    have h4' : (4 : Int) ≤ (tx l).size := by omega
    have hle : (tx l).size - 4 = l.length - 4 := by omega
    have hd : decide (((l.length : Nat) : Int) - 4 < 0) = false := by simp; omega
    by_cases hq : sealB (l.take (l.length - 4)) = l
    · have hE : openE l = 0 := by unfold openE; rw [if_neg h4, if_pos hq]
      have hL : openL l = l.take (l.length - 4) := by unfold openL; rw [hE]; rfl
      have HE := Lib.hid hE
      have HO := Lib.hid hL
      have hb := tx_beq hq
      clear hE hL hq
      go_enter Try.func46, Try.ntmps46
      go_wp2_with fail
      refine (rseal_any _ w (by simp; omega)).mono ?_
      rintro e w1 ⟨rfl, hu1⟩
      go_wp2_with fail
      go_ret2
      rw [HE.out, HO.out, ← hx]
      exact ⟨rfl, hu1⟩
    · have hE : openE l = 5 := by unfold openE; rw [if_neg h4, if_neg hq]
      have hL : openL l = [] := by unfold openL; rw [hE]; rfl
      have HE := Lib.hid hE
      have HO := Lib.hid hL
      have hb := tx_bne hq
      clear hE hL hq
      go_enter Try.func46, Try.ntmps46
      go_wp2_with fail
      refine (rseal_any _ w (by simp; omega)).mono ?_
      rintro e w1 ⟨rfl, hu1⟩
      go_wp2_with fail
      go_ret2
      rw [HE.out, HO.out]
      exact ⟨rfl, hu1⟩

set_option maxRecDepth 100000 in
set_option maxHeartbeats 1600000 in
theorem frameok_any (kind : Int) (n : Nat) (w : World) (hn : n ≤ 9223372036854775807) :
    Calls Try.prog 47 #[.int .i64 kind, .int .i64 (n : Int)] w fun e w' => e = .returned (.int .i64 (putE kind n : Int)) ∧ w = w' := by
  by_cases h1 : kind < 1
  · have hE : Hid (putE kind n = 1) := by show _ = _; unfold putE; rw [if_pos (.inl h1)]
    go_enter Try.func47, Try.ntmps47
    go_wp2_with fail
    go_ret
    rw [hE.out]; exact ⟨rfl, rfl⟩
  by_cases h2 : 100 < kind
  · have hE : Hid (putE kind n = 1) := by show _ = _; unfold putE; rw [if_pos (.inr h2)]
    go_enter Try.func47, Try.ntmps47
    go_wp2_with fail
    go_ret
    rw [hE.out]; exact ⟨rfl, rfl⟩
  by_cases h3 : 60000 < n
  · have hE : Hid (putE kind n = 2) := by show _ = _; unfold putE; rw [if_neg (by omega), if_pos h3]
    go_enter Try.func47, Try.ntmps47
    go_wp2_with fail
    go_ret
    rw [hE.out]; exact ⟨rfl, rfl⟩
  · have hE : Hid (putE kind n = 0) := by show _ = _; unfold putE; rw [if_neg (by omega), if_neg h3]
    go_enter Try.func47, Try.ntmps47
    go_wp2_with fail
    go_ret
    rw [hE.out]; exact ⟨rfl, rfl⟩

set_option maxRecDepth 100000 in
set_option maxHeartbeats 1600000 in
/-- Frame, of what may be -/
theorem rframe_any (kind : Int) (l : List UInt8) (w : World) (hk : 1 ≤ kind ∧ kind ≤ 100) (hn : l.length ≤ 60000) :
    Calls Try.prog 29 #[.int .i64 kind, .string (tx l)] w fun e w' => e = .returned (.string (tx (frameB kind l))) ∧ Up w w' := by
  obtain ⟨hk1, hk2⟩ := hk
  have hh : ([.int .u8 kind, .int .u8 ((l.length : Int) / 65536), .int .u8 ((l.length : Int) / 256), .int .u8 ((l.length : Int) % 256)] : List Value) = bvs (headB kind l.length) := by
    have e0 : kind = kind % 256 := by omega
    have e1 : (l.length : Int) / 65536 = ((l.length / 65536 % 256 : Nat) : Int) := by omega
    have e2 : (l.length : Int) / 256 = ((l.length / 256 % 256 : Nat) : Int) := by omega
    have e3 : (l.length : Int) % 256 = ((l.length % 256 : Nat) : Int) := by omega
    simp only [bvs, headB, List.map_cons, List.map_nil, bv_ofNat, bv_byteOf, e1, e2, e3, ← e0]
  have hv : tx (sealB (headB kind l.length)) ++ tx (sealB l) = tx (frameB kind l) := tx_append' _ _
  have hz0 := tx_size l
  have hz1 := tx_size (sealB (headB kind l.length))
  have hz2 := tx_size (sealB l)
  rw [sealB_len] at hz1 hz2
  have hsz : ¬ (9223372036854775807 < (tx (sealB (headB kind l.length))).size + (tx (sealB l)).size) := by rw [hz1, hz2]; simp [headB]; omega
  have FS := four_str _ _ _ _ _ hh
  have hc : ∀ j, (w.alloc (.cells #[.int .u8 kind, .int .u8 ((l.length : Int) / 65536), .int .u8 ((l.length : Int) / 256), .int .u8 ((l.length : Int) % 256)] 5)).cell? ⟨w.heap.size, j, none⟩ = #[Value.int .u8 kind, .int .u8 ((l.length : Int) / 65536), .int .u8 ((l.length : Int) / 256), .int .u8 ((l.length : Int) % 256)][j]? := fun j => World.cell?_alloc_at _ _ _ _ rfl
  have FS1 := FS _ _ (hc 0) (hc 1) (hc 2) (hc 3)
  have hl4 : (headB kind l.length).length = 4 := rfl
  have HV := Lib.hid hv
  clear hv hz1 hz2 FS hc hh
  generalize hH : headB kind l.length = H at *
  have HH := Lib.hid hH
  clear hH
  generalize hN : l.length = N at *
  have HN := Lib.hid hN
  clear hN
  go_enter Try.func29, Try.ntmps29
  go_wp2_with fail
  refine (rseal_any H _ (by omega)).mono ?_
  rintro e w1 ⟨rfl, hu1⟩
  go_wp2_with fail
  refine (rseal_any l _ (by rw [HN.out]; omega)).mono ?_
  rintro e w2 ⟨rfl, hu2⟩
  go_wp2_with fail
  go_ret
  rw [HV.out]
  exact ⟨rfl, (((Up.refl _).alloc _).trans hu1).trans hu2⟩
end Go.Proofs.Ytnbdijifhimogaa
