/-
  The walks of sum: Parts (of one text), Of, Seal, Open.
-/
import Derived.Test.YtnbdijifhimogaaFrameW1
namespace Go.Proofs.Ytnbdijifhimogaa
open Go.RowKit
set_option linter.unusedVariables false

def sumC (l : List UInt8) : Nat := 4294967295 - addC 4294967295 l
def sumB (n : Nat) : List UInt8 := [UInt8.ofNat n, UInt8.ofNat (n / 256), UInt8.ofNat (n / 65536), UInt8.ofNat (n / 16777216)]
def sealB (l : List UInt8) : List UInt8 := l ++ sumB (sumC l)
theorem sumC_lt (l : List UInt8) : sumC l < 4294967296 := by unfold sumC; omega
theorem sumB_len (n : Nat) : (sumB n).length = 4 := rfl
theorem sealB_len (l : List UInt8) : (sealB l).length = l.length + 4 := by simp [sealB, sumB_len]

theorem u32_not (x : Nat) (hx : x < 4294967296) : bits .xor .u32 IntKind.u32.max (x : Int) = ((4294967295 - x : Nat) : Int) := by
  rw [show IntKind.u32.max = ((4294967295 : Nat) : Int) by decide, u32_xor_nat _ _ (by decide) hx, Nat.xor_comm]
  congr 1
  have h := congrArg BitVec.toNat (BitVec.xor_allOnes (x := BitVec.ofNat 32 x))
  rw [BitVec.toNat_xor, BitVec.toNat_allOnes, BitVec.toNat_not, BitVec.toNat_ofNat, Nat.mod_eq_of_lt (by simpa using hx)] at h
  simpa using h
set_option maxRecDepth 100000 in
set_option maxHeartbeats 1600000 in
theorem parts1_any (g : Nat) (A : Option Addr) (n c : Nat) (l : List UInt8) (w : World) (hc : w.cell? ⟨g, 0, none⟩ = some (.slice A n c)) (hr : Rd w w.heap.size 1 A n (bvs l)) (hn : n ≤ 9223372036854775807) :
    Calls Try.prog 54 #[.slice (some ⟨g, 0, none⟩) 1 1] w fun e w' => e = .returned (.int .u32 (sumC l : Int)) ∧ w = w' := by
  have hl := addC_lt l (n := 4294967295) (by decide)
  have hv : sumC l = 4294967295 - addC 4294967295 l := rfl
  have HV := Lib.hid hv
  clear hv
  go_enter Try.func54, Try.ntmps54
  go_wp2_with fail
  go_loop [3, 8] (fun q i => ∃ (k : Nat) (x : Nat), i = .int .i64 (k : Int) ∧ q = .int .u32 (x : Int) ∧ k ≤ 1 ∧ Hid (k = 0 → x = 4294967295) ∧ Hid (k = 1 → x = addC 4294967295 l)) (fun _ i => 1 - (intOf i).toNat)
  case atStart => exact ⟨0, 4294967295, rfl, rfl, by omega, fun _ => rfl, fun h => by omega⟩
  case round =>
    obtain ⟨k, x, rfl, rfl, hk, h0, h1⟩ := hrel
    by_cases hk0 : k = 0
    · have hx := h0.out hk0
      subst hk0
      subst hx
      clear h0 h1
      go_wp2_with fail
      refine (add_any A n c l 4294967295 w hr hn (by decide)).mono ?_
      rintro e w1 ⟨rfl, rfl⟩
      go_wp2_with fail
      go_round
      case rel => exact ⟨1, addC 4294967295 l, rfl, rfl, by omega, fun h => by omega, fun _ => rfl⟩
      case measure => simp [intOf]
    · have hk1 : k = 1 := by omega
      have hx := h1.out hk1
      subst hk1
      clear h0 h1 hk0
      generalize addC 4294967295 l = y at *
      subst hx
      go_wp2_with fail
      go_ret
      rw [HV.out, u32_not x hl]
      exact ⟨rfl, rfl⟩
set_option maxRecDepth 100000 in
set_option maxHeartbeats 1600000 in
theorem of_any (A : Option Addr) (n c : Nat) (l : List UInt8) (w : World) (hr : Rd w w.heap.size 1 A n (bvs l)) (hn : n ≤ 9223372036854775807) :
    Calls Try.prog 49 #[.slice A n c] w fun e w' => e = .returned (.int .u32 (sumC l : Int)) ∧ Up w w' := by
  go_enter Try.func49, Try.ntmps49
  go_wp2_with fail
  refine (parts1_any w.heap.size A n c l _ (by rw [World.cell?_alloc_at (w := w) _ _ _ _ rfl]; rfl) (hr.up ((Up.refl w).alloc _)) hn).mono ?_
  rintro e w1 ⟨rfl, rfl⟩
  go_wp2_with fail
  go_ret
  exact ⟨rfl, (Up.refl w).alloc _⟩

set_option maxRecDepth 100000 in
set_option maxHeartbeats 1600000 in
theorem seal_any (A : Option Addr) (n c : Nat) (l : List UInt8) (w : World) (hr : Rd w w.heap.size 1 A n (bvs l)) (hn : n ≤ 1099511627776) :
    Calls Try.prog 36 #[.slice A n c] w fun e w' => ∃ A' c', e = .returned (.slice A' (n + 4) c') ∧ OwnB w' w.heap.size A' (n + 4) c' (sealB l) ∧ Up w w' := by
  have hs := sumC_lt l
  have hv : sealB l = l ++ sumB (sumC l) := rfl
  have HV := Lib.hid hv
  clear hv
  go_enter Try.func36, Try.ntmps36
  go_wp2_with fail
  refine (of_any A n c l w hr (by omega)).mono ?_
  rintro e w1 ⟨rfl, hu1⟩
  generalize sumC l = y at *
  have hnil : OwnB w1 w.heap.size none 0 0 [] := World.ownsRow_nil _ _ _ _
  have hr1 := hr.up hu1
  have hb : ([.int .u8 ((y : Int) % 256), .int .u8 ((y : Int) / 256 % 256), .int .u8 ((y : Int) / 65536 % 256), .int .u8 ((y : Int) / 16777216)] : List Value) = bvs (sumB y) := by
    have e1 : (y : Int) % 256 = ((y % 256 : Nat) : Int) := by omega
    have e2 : (y : Int) / 256 % 256 = ((y / 256 % 256 : Nat) : Int) := by omega
    have e3 : (y : Int) / 65536 % 256 = ((y / 65536 % 256 : Nat) : Int) := by omega
    have e4 : (y : Int) / 16777216 = ((y / 16777216 % 256 : Nat) : Int) := by omega
    simp only [bvs, sumB, List.map_cons, List.map_nil, bv_ofNat, e1, e2, e3, e4]
  have HB := Lib.hid hb
  clear hb
  go_wp2_with (first
    | (at_builtin; refine wpList_append_rd _ bytesT hnil hr1 (bvs_one _) (by omega) (by omega) (by have := hu1.size; omega) rfl rfl rfl rfl ?_; intro v2 w2 hown2 hg2 hat2; obtain ⟨A2, c2, rfl⟩ := own_form hown2; simp only [Nat.zero_add] at hown2; rw [show bvs [] ++ bvs l = bvs l from rfl] at hown2)
    | (at_builtin; refine wpList_append_rd _ bytesT (World.ownsRow.alloc hown2 _) (Rd.lit_at _ (sumB y) _ _ rfl HB.out) (bvs_one _) (by simp [sumB_len]; omega) (by simp [sumB_len]; omega) (by simp; have := hu1.size; have := hg2.size; omega) rfl rfl rfl rfl ?_; intro v3 w3 hown3 hg3 hat3; obtain ⟨A3, c3, rfl⟩ := own_form hown3))
  go_ret
  rw [sumB_len, ← bvs_append] at hown3
  refine ⟨A3, c3, rfl, ?_, ?_⟩
  · rw [HV.out]; exact hown3
  · exact ((hu1.grown hg2 (fun g hg => by simp [Value.ownBlock] at hg)).alloc _).grown hg3 (fun g hg => (hown2.lt g hg).1)
end Go.Proofs.Ytnbdijifhimogaa
