/-
  The walks of the document's May and Equal; of the law's Some.
-/
import Derived.Test.YtnbdijifhimogaaItemW4
import Derived.Test.YtnbdijifhimogaaNumLaw
import Derived.Deep.QuietTactic
import Derived.BigQuiet
namespace Go.Proofs.Ytnbdijifhimogaa
open Go.RowKit
set_option linter.unusedVariables false

theorem u64_and_le (a : Int) (m : Nat) (hm : m < 9223372036854775808) : ∃ k : Nat, bits .and .u64 a (m : Int) = (k : Int) ∧ k ≤ m := by
  refine ⟨(BitVec.ofInt 64 a).toNat &&& m, ?_, Nat.and_le_right⟩
  have hk : (BitVec.ofInt 64 a).toNat &&& m ≤ m := Nat.and_le_right
  show IntKind.u64.wrap ((BitVec.ofInt 64 a &&& BitVec.ofInt 64 (m : Int)).toNat : Int) = _
  rw [BitVec.toNat_and, ofInt_u64 m (by omega), IntKind.wrap_u64]
  omega

set_option maxRecDepth 100000 in
set_option maxHeartbeats 1600000 in
theorem may_any (Q : Option Addr) (m d : Nat) (l : List It) (w : World) (hq : Rd w w.heap.size 5 Q m (itcs l)) (hm : m ≤ 9223372036854775807) :
    Calls Try.prog 24 #[.slice Q m d] w fun e w' => e = .returned (.int .i64 (bytesE l : Int)) ∧ Up w w' := by
  have HL := Lib.hid hq.ilen
  by_cases hbig : 2000 < m
  · have hE : Hid (bytesE l = 2) := by show _ = _; unfold bytesE; rw [if_pos (by rw [← HL.out]; exact hbig)]
    go_enter Try.func24, Try.ntmps24
    go_wp2_with fail
    go_ret
    rw [hE.out]
    exact ⟨rfl, Up.refl _⟩
  · go_enter Try.func24, Try.ntmps24
    go_wp2_with fail
    go_loopw [3] (fun i wr => ∃ k : Nat, i = .int .i64 (k : Int) ∧ k ≤ m ∧ Hid ((l.take k).all okB = true) ∧ Up w wr) (fun i _ => m - (intOf i).toNat)
    case atStart => exact ⟨0, rfl, by omega, rfl, Up.refl _⟩
    case round =>
      obtain ⟨k, rfl, hk, hall, hu⟩ := hrel
      by_cases hlt : k < m
      · obtain ⟨b, o, i, rfl, hb, hik, c0, c1, c2, c3, c4⟩ := (hq.stay (Nat.le_refl _) hu).item_at hlt
        have HI := Lib.hid hik
        clear hik
        go_wp2_with fail
        refine (rok_any i wr).mono ?_
        rintro e w2 ⟨rfl, hu2⟩
        have hkl : k < l.length := by have := HL.out; omega
        have htk : l.take (k + 1) = l.take k ++ [i] := by
          rw [List.take_succ_eq_append_getElem hkl]
          have := HI.out
          rw [List.getElem?_eq_getElem hkl] at this
          injection this with this
          rw [this]
        have HT := Lib.hid htk
        clear htk c0 c1 c2 c3 c4
        cases hok : okB i
        · have hE : Hid (bytesE l = 1) := by
            show _ = _
            have : okB l[k] = false := by
              have h := HI.out
              rw [List.getElem?_eq_getElem hkl] at h
              injection h with h
              rw [h]; exact hok
            have h2 : l.all okB = false := by
              rw [List.all_eq_false]
              exact ⟨l[k], List.getElem_mem _, by rw [this]; simp⟩
            unfold bytesE
            rw [if_neg (by rw [← HL.out]; exact hbig), h2]; rfl
          clear hok
          go_wp2_with fail
          go_ret
          rw [hE.out]
          exact ⟨rfl, hu.trans hu2⟩
        · have HO := Lib.hid hok
          clear hok
          go_wp2_with fail
          go_roundw
          case rel =>
            refine ⟨k + 1, by go_num, by omega, ?_, hu.trans hu2⟩
            show _ = _
            rw [HT.out, List.all_append, hall.out]
            simp [HO.out]
          case measure => simp [intOf]; omega
      · go_wp2_with fail
        go_ret
        have hE : bytesE l = 0 := by
          have hk' : k = l.length := by have := HL.out; omega
          have h := hall.out
          rw [hk', List.take_of_length_le (Nat.le_refl _)] at h
          unfold bytesE
          rw [if_neg (by rw [← HL.out]; exact hbig), h]; rfl
        rw [hE]
        exact ⟨rfl, hu⟩

set_option maxRecDepth 100000 in
set_option maxHeartbeats 1600000 in
theorem equal_any (A B : Option Addr) (n c m d : Nat) (l : List It) (w : World) (ha : Rd w w.heap.size 5 A n (itcs l)) (hb : Rd w w.heap.size 5 B m (itcs l)) (hn : n ≤ 4611686018427387903) :
    Calls Try.prog 28 #[.slice A n c, .slice B m d] w fun e w' => e = .returned (.bool true) ∧ Up w w' := by
  obtain rfl : m = n := by have := ha.ilen; have := hb.ilen; omega
  have hne : ((m : Int) != (m : Int)) = false := by simp
  go_enter Try.func28, Try.ntmps28
  go_wp2
  go_loopw [5] (fun i wr => ∃ k : Nat, i = .int .i64 (k : Int) ∧ k ≤ m ∧ Up w wr) (fun i _ => m - (intOf i).toNat)
  case atStart => exact ⟨0, rfl, by omega, Up.refl _⟩
  case round =>
    obtain ⟨k, rfl, hk, hu⟩ := hrel
    by_cases hlt : k < m
    · obtain ⟨b1, o1, i1, rfl, hb1, hk1, c0, c1, c2, c3, c4⟩ := (ha.stay (Nat.le_refl _) hu).item_at hlt
      obtain ⟨b2, o2, i2, rfl, hb2, hk2, d0, d1, d2, d3, d4⟩ := (hb.stay (Nat.le_refl _) hu).item_at hlt
      obtain rfl : i1 = i2 := by rw [hk1] at hk2; injection hk2
      have hi0 : (0 : Int) ≤ (k : Int) := by omega
      have hi1 : (k : Int) < (m : Int) := by omega
      clear hk1 hk2 ha hb
      go_wp2_with fail
      go_quiet (fail)
      go_wp2_with fail
      go_roundw
      case rel => exact ⟨k + 1, by go_num, by omega, hu.drewN _⟩
      case measure => simp [intOf]; omega
    · go_wp2
      go_ret
      exact ⟨rfl, hu⟩

end Go.Proofs.Ytnbdijifhimogaa
