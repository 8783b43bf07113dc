/-
  The walks of the document's EditMay and Edit.
-/
import Derived.Test.YtokcaoaclheiiaaEditW9
import Derived.Test.YtokcaoaclheiiaaRefW2
import Derived.Test.YtokcaoaclheiiaaRefW3
import Derived.Test.YtokcaoaclheiiaaFrameW8
namespace Go.Proofs.Ytokcaoaclheiiaa
open Go.RowKit
set_option linter.unusedVariables false
set_option linter.unusedSimpArgs false

set_option maxRecDepth 100000 in
theorem rfileOk_any (x y : Int) (w : World) : Calls Try.prog 36 #[.agg #[.int .i64 x, .int .i64 y]] w fun e w' => e = .returned (.bool (fileOk (x, y))) ∧ Up w w' := by
  have hs : fileOk (x, y) = decide (0 ≤ x ∧ x ≤ 3 ∧ 1 ≤ y ∧ y ≤ 1073741824) := by
    unfold fileOk numOk
    rw [Bool.eq_iff_iff]
    simp only [Bool.and_eq_true, decide_eq_true_eq]
    omega
  have HS := Lib.hid hs
  clear hs
  go_enter Try.func36, Try.ntmps36
  go_wp2
  all_goals
    go_ret
    refine ⟨retb ?_, (Up.refl w).alloc _⟩
    rw [HS.out, Bool.eq_iff_iff]
    clear HS
    first | omega | (simp at *; done) | (simp at *; omega)
def mayN (b : Bool) : Nat := bif b then 0 else 1
set_option maxRecDepth 100000 in
set_option maxHeartbeats 1600000 in
theorem rmay_any (D : Option Addr) (dn dc : Nat) (ds : List Int) (A : Option Addr) (an ac : Nat) (add : List Fl) (lg : Int) (f ce at_ le : Nat) (w : World)
    (hd : Rd w w.heap.size 1 D dn (nmv ds)) (hdn : dn ≤ 9223372036854775807) (ha : Rd w w.heap.size 2 A an (fvs add)) (han : an ≤ 9223372036854775807) :
    Calls Try.prog 16 #[.agg #[.slice D dn dc, .slice A an ac, .int .i64 lg, .int .u64 (f : Int), .int .u64 (ce : Int), .int .u64 (at_ : Int), .int .u64 (le : Int)]] w fun e w' => e = .returned (.int .i64 (mayN (mayE ds add lg f ce at_ le) : Int)) ∧ Up w w' := by
  have hdl : dn = ds.length := by have := hd.1; rw [nmv_len] at this; omega
  have hal : an = add.length := ha.flen
  have hv : mayE ds add lg f ce at_ le = (decide (dn ≤ 40 ∧ an ≤ 40 ∧ 0 ≤ lg ∧ lg ≤ 1073741824 ∧ f ≤ 281474976710656 ∧ ce ≤ 281474976710656 ∧ at_ ≤ 281474976710656 ∧ le ≤ 281474976710656) && (ds.all numOk && add.all fileOk)) := by
    unfold mayE
    rw [← hdl, ← hal, Bool.eq_iff_iff]
    simp only [Bool.and_eq_true, decide_eq_true_eq, List.all_cons, List.all_nil, Bool.and_true, verOk]
    constructor
    · rintro ⟨a1, a2, a3, a4, ⟨a5, a6, a7, a8⟩, a9, a10⟩; exact ⟨⟨a1, a2, a3, a4, a5, a6, a7, a8⟩, a9, a10⟩
    · rintro ⟨⟨a1, a2, a3, a4, a5, a6, a7, a8⟩, a9, a10⟩; exact ⟨a1, a2, a3, a4, ⟨a5, a6, a7, a8⟩, a9, a10⟩
  have HV := Lib.hid hv
  have HDL := Lib.hid hdl
  have HAL := Lib.hid hal
  clear hv hdl hal
  obtain ⟨w1, hw1⟩ : ∃ w1, w1 = w.alloc (.cells #[.slice D dn dc, .slice A an ac, .int .i64 lg, .int .u64 (f : Int), .int .u64 (ce : Int), .int .u64 (at_ : Int), .int .u64 (le : Int)] 32) := ⟨_, rfl⟩
  have hup : Up w w1 := by rw [hw1]; exact (Up.refl w).alloc _
  have hb : w1.heap[w.heap.size]? = some (.cells #[.slice D dn dc, .slice A an ac, .int .i64 lg, .int .u64 (f : Int), .int .u64 (ce : Int), .int .u64 (at_ : Int), .int .u64 (le : Int)] 32 (0, 0)) := by rw [hw1]; exact heap_alloc_new w _
  have hd1 := hd.up hup
  have ha1 := ha.up hup
  clear hd ha
  have HW := Lib.hid hw1
  clear hw1
  by_cases hall : dn ≤ 40 ∧ an ≤ 40 ∧ 0 ≤ lg ∧ lg ≤ 1073741824 ∧ f ≤ 281474976710656 ∧ ce ≤ 281474976710656 ∧ at_ ≤ 281474976710656 ∧ le ≤ 281474976710656
  · rw [show decide (dn ≤ 40 ∧ an ≤ 40 ∧ 0 ≤ lg ∧ lg ≤ 1073741824 ∧ f ≤ 281474976710656 ∧ ce ≤ 281474976710656 ∧ at_ ≤ 281474976710656 ∧ le ≤ 281474976710656) = true by simp; omega, Bool.true_and] at HV
    obtain ⟨m1, m2, m3, m4, m5, m6, m7, m8⟩ := hall
    have d1 : ¬ (40 : Int) < (dn : Int) := by omega
    have d2 : ¬ (40 : Int) < (an : Int) := by omega
    have d3 : ¬ lg < 0 := by omega
    have d4 : ¬ 1073741824 < lg := by omega
    have d5 : ¬ (281474976710656 : Int) < (f : Int) := by omega
    have d6 : ¬ (281474976710656 : Int) < (ce : Int) := by omega
    have d7 : ¬ (281474976710656 : Int) < (at_ : Int) := by omega
    have d8 : ¬ (281474976710656 : Int) < (le : Int) := by omega
    go_enter Try.func16, Try.ntmps16
    go_wp2_with fail
    rw [← HW.out]
    clear HW d1 d2 d3 d4 d5 d6 d7 d8
    generalize w.heap.size = ge at hb ⊢
    go_loopw [3] (fun i wr => ∃ k : Nat, i = .int .i64 (k : Int) ∧ k ≤ dn ∧ Hid (∀ j (hj : j < k) (hl : j < ds.length), numOk ds[j] = true) ∧ Up w1 wr) (fun i _ => dn - (intOf i).toNat)
    case atStart => exact ⟨0, rfl, by omega, fun j hj => absurd hj (Nat.not_lt_zero _), Up.refl _⟩
    case round =>
      obtain ⟨k, rfl, hk, hal, hu⟩ := hrel
      have hb2 := (hu.block _ (Array.getElem?_eq_some_iff.1 hb).1).trans hb
      have t0 := blk_cell hb2 0
      by_cases hlt : k < dn
      · have hkl : k < ds.length := by have := HDL.out; omega
        obtain ⟨b, o, rfl, hbb, hc⟩ := (hd1.up hu).2 (by omega)
        have hck := hc k (.int .i64 ds[k]) (by simp [nmv, hkl])
        obtain ⟨x, hx⟩ : ∃ x, x = ds[k] := ⟨_, rfl⟩
        rw [← hx] at hck
        have HX := Lib.hid hx
        have hki : (k : Int) < (dn : Int) := by omega
        clear hx hc
        by_cases n1 : x < 1
        · go_wp2_with fail
          go_ret
          refine ⟨?_, hup.trans hu⟩
          have e : mayE ds add lg f ce at_ le = false := by
            have hf : ds.all numOk = false := by
              rw [List.all_eq_false]
              exact ⟨ds[k], List.getElem_mem _, by rw [← HX.out]; simp [numOk]; omega⟩
            rw [HV.out, hf]; rfl
          rw [e]; rfl
        · by_cases n2 : 1073741824 < x
          · go_wp2_with fail
            go_ret
            refine ⟨?_, hup.trans hu⟩
            have e : mayE ds add lg f ce at_ le = false := by
              have hf : ds.all numOk = false := by
                rw [List.all_eq_false]
                exact ⟨ds[k], List.getElem_mem _, by rw [← HX.out]; simp [numOk]; omega⟩
              rw [HV.out, hf]; rfl
            rw [e]; rfl
          · go_wp2_with fail
            clear hck t0
            go_roundw
            case rel =>
              refine ⟨k + 1, by go_num, by omega, ?_, hu⟩
              intro j hj hl
              by_cases hjk : j = k
              · subst hjk; rw [← HX.out]; simp [numOk]; omega
              · exact hal.out j (by omega) hl
            case measure => simp [intOf]; omega
      · have hdsall : ds.all numOk = true := by
          rw [List.all_eq_true]
          intro x hx
          obtain ⟨j, hj, rfl⟩ := List.getElem_of_mem hx
          exact hal.out j (by have := HDL.out; omega) hj
        rw [hdsall, Bool.true_and] at HV
        have hup2 := hup.trans hu
        have ha2 := ha1.up hu
        clear hdsall hal
        go_wp2_with fail
        clear t0
        go_loopw [4] (fun i wr2 => ∃ k : Nat, i = .int .i64 (k : Int) ∧ k ≤ an ∧ Hid (∀ j (hj : j < k) (hl : j < add.length), fileOk add[j] = true) ∧ Up wr wr2) (fun i _ => an - (intOf i).toNat)
        case atStart => exact ⟨0, rfl, by omega, fun j hj => absurd hj (Nat.not_lt_zero _), Up.refl _⟩
        case round =>
          obtain ⟨j, rfl, hj, hal, hu3⟩ := hrel
          have hb3 := (hu3.block _ (Array.getElem?_eq_some_iff.1 hb2).1).trans hb2
          have t1 := blk_cell hb3 1
          by_cases hlt2 : j < an
          · have hjl : j < add.length := by have := HAL.out; omega
            obtain ⟨b, o, x, rfl, hbb, hx, c0, c1⟩ := (ha2.up hu3).file_at hlt2
            rw [List.getElem?_eq_getElem hjl] at hx
            injection hx with hx
            have HX := Lib.hid hx
            have hji : (j : Int) < (an : Int) := by omega
            clear hx
            obtain ⟨x1, x2⟩ := x
            (try dsimp only at c0 c1)
            go_wp2_with fail
            clear t1 c0 c1
            refine (rfileOk_any x1 x2 wr).mono ?_
            rintro e w6 ⟨rfl, hu6⟩
            obtain ⟨bf, hbf⟩ : ∃ bf, bf = fileOk (x1, x2) := ⟨_, rfl⟩
            rw [← hbf]
            have HF := Lib.hid hbf
            clear hbf
            cases bf
            · go_wp2_with fail
              go_ret
              refine ⟨?_, (hup2.trans hu3).trans hu6⟩
              have e : mayE ds add lg f ce at_ le = false := by
                have hf : add.all fileOk = false := by
                  rw [List.all_eq_false]
                  exact ⟨add[j], List.getElem_mem _, by rw [HX.out, ← HF.out]; simp⟩
                rw [HV.out, hf]
              rw [e]; rfl
            · go_wp2_with fail
              go_roundw
              case rel =>
                refine ⟨j + 1, by go_num, by omega, ?_, hu3.trans hu6⟩
                intro q hq hl
                by_cases hjq : q = j
                · subst hjq; rw [HX.out, ← HF.out]
                · exact hal.out q (by omega) hl
              case measure => simp [intOf]; omega
          · go_wp2_with fail
            go_ret
            refine ⟨?_, hup2.trans hu3⟩
            have e : mayE ds add lg f ce at_ le = true := by
              rw [HV.out, List.all_eq_true]
              intro x hx
              obtain ⟨q, hq, rfl⟩ := List.getElem_of_mem hx
              exact hal.out q (by have := HAL.out; omega) hq
            rw [e]; rfl
  · have hno : mayE ds add lg f ce at_ le = false := by
      rw [HV.out, decide_eq_false hall]; rfl
    rw [hno]
    clear hno HV
    go_enter Try.func16, Try.ntmps16
    go_wp2
    all_goals first
      | (rw [← HW.out]; go_ret; exact ⟨rfl, hup⟩)
      | (exfalso; apply hall; refine ⟨?_, ?_, ?_, ?_, ?_, ?_, ?_, ?_⟩ <;> omega)
end Go.Proofs.Ytokcaoaclheiiaa
