/-
  The walks of edit's tests: isNum, isFile, meta, IndexFunc and ContainsFunc of files.
-/
import Derived.Test.YtokcaoaclheiiaaFile
namespace Go.Proofs.Ytokcaoaclheiiaa
open Go.RowKit
set_option linter.unusedVariables false
set_option linter.unusedSimpArgs false

def numOk (n : Int) : Bool := decide (1 ≤ n ∧ n ≤ 1073741824)
def fileOk (f : Fl) : Bool := numOk f.2 && decide (0 ≤ f.1 ∧ f.1 ≤ 3)
def verOk (n : Nat) : Bool := decide (n ≤ 281474976710656)
def uqs (l : List Nat) : List Value := l.map fun (n : Nat) => .int .u64 (n : Int)
theorem uqs_len (l : List Nat) : (uqs l).length = l.length := by simp [uqs]
theorem retb {a b : Bool} (h : a = b) : Ending.returned (.bool a) = .returned (.bool b) := by rw [h]

set_option maxRecDepth 100000 in
theorem isNum_any (n : Int) (w : World) : Calls Try.prog 30 #[.int .i64 n] w fun e w' => e = .returned (.bool (numOk n)) ∧ Up w w' := by
  have hs : numOk n = decide (1 ≤ n ∧ n ≤ 1073741824) := rfl
  have HS := Lib.hid hs
  clear hs
  go_enter Try.func30, Try.ntmps30
  go_wp2
  all_goals
    go_ret
    refine ⟨retb ?_, Up.refl w⟩
    rw [HS.out, Bool.eq_iff_iff]
    clear HS
    first | omega | (simp at *; done) | (simp at *; omega)
set_option maxRecDepth 100000 in
theorem isFile_any (x y : Int) (w : World) : Calls Try.prog 32 #[.agg #[.int .i64 x, .int .i64 y]] w fun e w' => e = .returned (.bool (fileOk (x, y))) ∧ Up w w' := by
  have hs : fileOk (x, y) = (numOk y && decide (0 ≤ x ∧ x ≤ 3)) := rfl
  have HS := Lib.hid hs
  clear hs
  have h0 : Up w (w.alloc (.cells #[.int .i64 x, .int .i64 y] 41)) := (Up.refl w).alloc _
  go_enter Try.func32, Try.ntmps32
  go_wp2_with fail
  have hc0 : ∀ W, Up (w.alloc (.cells #[.int .i64 x, .int .i64 y] 41)) W → W.cell? ⟨w.heap.size, 0, none⟩ = some (.int .i64 x) := fun W h => (h.cell (by simp)).trans (by simp)
  generalize w.alloc (.cells #[.int .i64 x, .int .i64 y] 41) = w1 at *
  refine (isNum_any y w1).mono ?_
  rintro e w2 ⟨rfl, hu⟩
  have hc := hc0 w2 hu
  generalize numOk y = b at *
  cases b
  · go_wp2_with fail
    go_ret
    rw [HS.out]
    exact ⟨rfl, h0.trans hu⟩
  · by_cases k1 : 0 ≤ x
    · by_cases k2 : x ≤ 3
      · go_wp2_with fail
        go_ret
        refine ⟨retb ?_, h0.trans hu⟩
        rw [HS.out, Bool.eq_iff_iff]
        first | (simp; done) | (simp; omega)
      · go_wp2_with fail
        go_ret
        refine ⟨retb ?_, h0.trans hu⟩
        rw [HS.out, Bool.eq_iff_iff]
        first | (simp; done) | (simp; omega)
    · go_wp2_with fail
      go_ret
      refine ⟨retb ?_, h0.trans hu⟩
      rw [HS.out, Bool.eq_iff_iff]
      first | (simp; done) | (simp; omega)
set_option maxRecDepth 100000 in
theorem meta1_any (n : Nat) (w : World) : Calls Try.prog 51 #[.int .u64 (n : Int)] w fun e w' => e = .returned (.bool (!verOk n)) ∧ Up w w' := by
  have hs : verOk n = decide (n ≤ 281474976710656) := rfl
  have HS := Lib.hid hs
  clear hs
  go_enter Try.func51, Try.ntmps51
  go_wp2
  all_goals
    go_ret
    refine ⟨retb ?_, Up.refl w⟩
    rw [HS.out, Bool.eq_iff_iff]
    clear HS
    first | omega | (simp at *; done) | (simp at *; omega)
set_option maxRecDepth 100000 in
set_option maxHeartbeats 800000 in
theorem ixu_any (A : Option Addr) (n c : Nat) (l : List Nat) (w : World) (hr : Rd w w.heap.size 1 A n (uqs l)) (hn : n ≤ 9223372036854775807) :
    Calls Try.prog 62 #[.slice A n c, .func (.func 51) #[] #[]] w fun e w' => e = .returned (.int .i64 (ixI (fun n => !verOk n) l)) ∧ Up w w' := by
  have HL := Lib.hid (show n = l.length by have := hr.1; rw [uqs_len] at this; omega)
  go_enter Try.func62, Try.ntmps62
  go_wp2_with fail
  go_loopw [8] (fun i wr => ∃ k : Nat, i = .int .i64 (k : Int) ∧ k ≤ n ∧ Hid (∀ j (hj : j < k) (hl : j < l.length), verOk l[j] = true) ∧ Up w wr) (fun i _ => n - (intOf i).toNat)
  case atStart => exact ⟨0, rfl, by omega, fun j hj => absurd hj (Nat.not_lt_zero _), Up.refl _⟩
  case round =>
    obtain ⟨k, rfl, hk, hall, hu⟩ := hrel
    by_cases hlt : k < n
    · have hkl : k < l.length := by have := HL.out; omega
      obtain ⟨b, o, rfl, hb, hc⟩ := hr.2 (by omega)
      have hck : wr.cell? ⟨b, o + k, none⟩ = some (.int .u64 (l[k] : Int)) := (hu.cell (p := ⟨b, o + k, none⟩) hb).trans (hc k _ (by simp [uqs, hkl]))
      obtain ⟨x, hx⟩ : ∃ x, x = l[k] := ⟨_, rfl⟩
      rw [← hx] at hck
      have HX := Lib.hid hx
      clear hx hc
      go_wp2_with fail
      refine (meta1_any x wr).mono ?_
      rintro e w2 ⟨rfl, hu2⟩
      obtain ⟨q, hq⟩ : ∃ q, q = verOk x := ⟨_, rfl⟩
      rw [← hq]
      have HQ := Lib.hid hq
      clear hck hq
      cases q
      · go_wp2_with fail
        go_ret
        refine ⟨?_, hu.trans hu2⟩
        rw [ixI_hit (k := k) hkl (fun j hj => by rw [hall.out j hj (by omega)]; rfl) (by rw [← HX.out, ← HQ.out]; rfl)]
        rfl
      · go_wp2_with fail
        go_roundw
        case rel =>
          refine ⟨k + 1, by go_num, by omega, ?_, hu.trans hu2⟩
          intro j hj hl
          by_cases hjk : j = k
          · subst hjk; rw [← HX.out, ← HQ.out]
          · exact hall.out j (by omega) hl
        case measure => simp [intOf]; omega
    · go_wp2_with fail
      go_ret
      refine ⟨?_, hu⟩
      rw [ixI_miss (fun j hj => by rw [hall.out j (by have := HL.out; omega) hj]; rfl)]
      rfl
set_option maxRecDepth 100000 in
theorem meta_any (A : Option Addr) (n c : Nat) (l : List Nat) (w : World) (hr : Rd w w.heap.size 1 A n (uqs l)) (hn : n ≤ 9223372036854775807) :
    Calls Try.prog 31 #[.slice A n c] w fun e w' => e = .returned (.bool (l.all verOk)) ∧ Up w w' := by
  have hany := ixI_any (fun n => !verOk n) l
  have hall : (!(l.any fun n => !verOk n)) = l.all verOk := by rw [List.not_any_eq_all_not]; congr 1; funext x; simp
  have HA := Lib.hid hany
  have HB := Lib.hid hall
  clear hany hall
  go_enter Try.func31, Try.ntmps31
  go_wp2_with fail
  go_enter Try.func50, Try.ntmps50
  go_wp2_with fail
  refine (ixu_any A n c l w hr hn).mono ?_
  rintro e w1 ⟨rfl, hu⟩
  generalize ixI (fun n => !verOk n) l = z at *
  go_wp2_with fail
  go_ret
  refine ⟨retb ?_, hu⟩
  show (!decide (0 ≤ z)) = _
  rw [HA.out]; exact HB.out
end Go.Proofs.Ytokcaoaclheiiaa
