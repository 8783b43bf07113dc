/-
  The walks of the document's answers for items: Key, May, Equal; of the law's Some.
-/
import Derived.Test.YtpifigalaembdaaItemW4
import Derived.Test.YtpifigalaembdaaRefW2
import Derived.Deep.RegionWith
namespace Go.Proofs.Ytpifigalaembdaa
open Go.RowKit
set_option linter.unusedVariables false

set_option maxRecDepth 100000 in
set_option maxHeartbeats 1600000 in
theorem rkey_any (i : It) (w : World) :
    Calls Try.prog 25 #[.agg #[.int .i64 i.s.toInt, .int .i64 i.k.toInt, .int .u64 (i.t.toNat : Int), .int .u64 (i.v.toNat : Int), .int .i64 i.x.toInt]] w fun e w' => ∃ s : ByteArray, e = .returned (.string s) ∧ Hid (s.data.toList = keyB i) ∧ Up w w' := by
  have hc : ∃ t2 : ByteArray, t2.data.toList = [byteOf i.s.toInt, byteOf i.k.toInt] ∧ ∀ (W : World) (g : Nat), W.cell? ⟨g, 0, none⟩ = some (.int .u8 (IntKind.u8.wrap i.s.toInt)) → W.cell? ⟨g, 1, none⟩ = some (.int .u8 (IntKind.u8.wrap i.k.toInt)) → (convert 31 9 (.slice (some ⟨g, 0, none⟩) 2 2)).run Try.prog W = .ok (.string t2) W := by
    refine ⟨⟨[byteOf i.s.toInt, byteOf i.k.toInt].toArray⟩, by simp, fun W g h0 h1 => ?_⟩
    refine run_str (B := g + 1) 2 ⟨by simp [bvs], fun _ => ⟨g, 0, rfl, by omega, fun j u hj => ?_⟩⟩
    match j with
    | 0 => simp [bvs] at hj; rw [← hj, bv_byteOf, Nat.zero_add, h0, IntKind.wrap_u8]
    | 1 => simp [bvs] at hj; rw [← hj, bv_byteOf, Nat.zero_add, h1, IntKind.wrap_u8]
    | j + 2 => simp [bvs] at hj
  obtain ⟨t2, ht2, HC⟩ := hc
  have hz2 : t2.size ≤ 2 := by rw [size_str ht2]; simp
  have HT := Lib.hid ht2
  clear ht2
  go_enter Try.func25, Try.ntmps25
  go_wp2_with fail
  go_region_with (go_at_call 34; refine (reight_any _ _ (by have := i.t.toNat_lt; omega)).mono ?_; rintro e W1 ⟨s1, rfl, hs1, hu1⟩; have hz1 : s1.size ≤ 8 := (by rw [size_str hs1.out, eightB_len]; omega); have hzz : ¬ (9223372036854775807 < t2.size + s1.size) := (by omega); have hb0 := fun h => hu1.cell (p := ⟨w.heap.size, 0, none⟩) h; have hb1 := fun h => hu1.cell (p := ⟨w.heap.size, 1, none⟩) h; have hc0 := fun h => hu1.cell (p := ⟨w.heap.size + 1, 0, none⟩) h; have hc1 := fun h => hu1.cell (p := ⟨w.heap.size + 1, 1, none⟩) h; simp at hb0 hb1 hc0 hc1)
  all_goals
    go_wp2_with fail
    go_ret
    refine ⟨t2 ++ s1, rfl, ?_, ?_⟩
    · show _ = _
      simp [ByteArray.data_append, HT.out, hs1.out, keyB]
    · have h01 : Up w W1 := by
        refine Up.trans ?_ hu1
        repeat' (first | exact Up.refl _ | with_reducible refine Up.alloc ?_ _ | with_reducible refine Up.drew ?_)
      repeat' (first | exact h01 | with_reducible refine Up.alloc ?_ _ | with_reducible refine Up.drew ?_)
end Go.Proofs.Ytpifigalaembdaa
