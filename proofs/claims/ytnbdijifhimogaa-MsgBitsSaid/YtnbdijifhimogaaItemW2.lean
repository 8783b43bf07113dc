/-
  The walks of item: Key, All.
-/
import Derived.Test.YtnbdijifhimogaaItemW1
import Derived.Test.YtnbdijifhimogaaNumW3
namespace Go.Proofs.Ytnbdijifhimogaa
open Go.RowKit
set_option linter.unusedVariables false

def keyB (i : It) : List UInt8 := byteOf i.s.toInt :: byteOf i.k.toInt :: eightB i.t.toNat


set_option maxRecDepth 100000 in
set_option maxHeartbeats 800000 in
theorem all1_any (i : It) (w : World) :
    Calls Try.prog 39 #[.agg #[.int .i64 i.s.toInt, .int .i64 i.k.toInt, .int .u64 (i.t.toNat : Int), .int .u64 (i.v.toNat : Int), .int .i64 i.x.toInt]] w fun e w' => e = .returned (.bool (!okB i)) ∧ Up w w' := by
  go_enter Try.func39, Try.ntmps39
  go_wp2_with fail
  refine (ok_any i _).mono ?_
  rintro e w1 ⟨rfl, hu⟩
  go_wp2_with fail
  go_ret
  exact ⟨rfl, ((Up.refl w).alloc _).trans hu⟩
set_option maxRecDepth 100000 in
set_option maxHeartbeats 800000 in
theorem indexf_any (A : Option Addr) (n c : Nat) (l : List It) (w : World) (hr : Rd w w.heap.size 5 A n (itcs l)) (hn : n ≤ 9223372036854775807) :
    Calls Try.prog 51 #[.slice A n c, .func (.func 39) #[] #[]] w fun e w' => ∃ z : Int, e = .returned (.int .i64 z) ∧ Hid (l.all okB = decide (z < 0)) ∧ Up w w' := by
  have HL := Lib.hid hr.ilen
  go_enter Try.func51, Try.ntmps51
  go_wp2_with fail
  go_loopw [8] (fun i wr => ∃ k : Nat, i = .int .i64 (k : Int) ∧ k ≤ n ∧ Hid ((l.take k).all okB = true) ∧ Up w wr) (fun i _ => n - (intOf i).toNat)
  case atStart => exact ⟨0, rfl, by omega, rfl, Up.refl _⟩
  case round =>
    obtain ⟨k, rfl, hk, hall, hu⟩ := hrel
    by_cases hlt : k < n
    · obtain ⟨b, o, i, rfl, hb, hik, c0, c1, c2, c3, c4⟩ := (hr.stay (Nat.le_refl _) hu).item_at hlt
      have HI := Lib.hid hik
      clear hik
      go_wp2_with fail
      refine (all1_any i wr).mono ?_
      rintro e w2 ⟨rfl, hu2⟩
      have hkl : k < l.length := by have := HL.out; omega
      have htk : l.take (k + 1) = l.take k ++ [i] := by
        rw [List.take_succ_eq_append_getElem hkl]
        have := HI.out
        rw [List.getElem?_eq_getElem hkl] at this
        injection this with this
        rw [this]
      have HT := Lib.hid htk
      clear htk c0 c1 c2 c3 c4
      cases hok : okB i
      · have hf : Hid (l.all okB = decide ((k : Int) < 0)) := by
          show _ = _
          have : okB l[k] = false := by
            have h := HI.out
            rw [List.getElem?_eq_getElem hkl] at h
            injection h with h
            rw [h]; exact hok
          have h2 : l.all okB = false := by
            rw [List.all_eq_false]
            exact ⟨l[k], List.getElem_mem _, by rw [this]; simp⟩
          rw [h2]; simp
        clear hok
        go_wp2_with fail
        go_ret
        exact ⟨k, rfl, hf, hu.trans hu2⟩
      · have HO := Lib.hid hok
        clear hok
        go_wp2_with fail
        go_roundw
        case rel =>
          refine ⟨k + 1, by go_num, by omega, ?_, hu.trans hu2⟩
          show _ = _
          rw [HT.out, List.all_append, hall.out]
          simp [HO.out]
        case measure => simp [intOf]; omega
    · go_wp2_with fail
      go_ret
      refine ⟨-1, rfl, ?_, hu⟩
      show _ = _
      have hk' : k = l.length := by have := HL.out; omega
      have h := hall.out
      rw [hk', List.take_of_length_le (Nat.le_refl _)] at h
      rw [h]; rfl
set_option maxRecDepth 100000 in
theorem all_any (A : Option Addr) (n c : Nat) (l : List It) (w : World) (hr : Rd w w.heap.size 5 A n (itcs l)) (hn : n ≤ 9223372036854775807) :
    Calls Try.prog 21 #[.slice A n c] w fun e w' => e = .returned (.bool (l.all okB)) ∧ Up w w' := by
  have h1 := indexf_any A n c l w hr hn
  have H1 := Lib.hid h1
  clear h1
  generalize l.all okB = r at *
  have h2 : Calls Try.prog 38 #[.slice A n c, .func (.func 39) #[] #[]] w fun e w' => e = .returned (.bool (!r)) ∧ Up w w' := by
    go_enter Try.func38, Try.ntmps38
    go_wp2_with fail
    refine H1.out.mono ?_
    rintro e w1 ⟨z, rfl, hz, hu⟩
    go_wp2_with fail
    go_ret
    refine ⟨ret_bool ?_, hu⟩
    rw [hz.out]
    by_cases h : z < 0
    · simp [h]
    · simp [h]; omega
  have H2 := Lib.hid h2
  clear h2 H1
  go_enter Try.func21, Try.ntmps21
  go_wp2_with fail
  refine H2.out.mono ?_
  rintro e w1 ⟨rfl, hu⟩
  go_wp2_with fail
  go_ret
  exact ⟨ret_bool (by simp), hu⟩
end Go.Proofs.Ytnbdijifhimogaa
