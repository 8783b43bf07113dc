/-
  The walk of edit.may.
-/
import Derived.Test.YtokcaoaclheiiaaEditW4
namespace Go.Proofs.Ytokcaoaclheiiaa
open Go.RowKit
set_option linter.unusedVariables false
set_option linter.unusedSimpArgs false

def mayE (ds : List Int) (add : List Fl) (lg : Int) (f ce at_ le : Nat) : Bool :=
  decide (ds.length ≤ 40) && (decide (add.length ≤ 40) && (decide (0 ≤ lg) && (decide (lg ≤ 1073741824) && ([f, ce, at_, le].all verOk && (ds.all numOk && add.all fileOk)))))

set_option maxRecDepth 100000 in
theorem may1_any (n : Int) (w : World) : Calls Try.prog 55 #[.int .i64 n] w fun e w' => e = .returned (.bool (!numOk n)) ∧ Up w w' := by
  go_enter Try.func55, Try.ntmps55
  go_wp2_with fail
  refine (isNum_any n w).mono ?_
  rintro e w2 ⟨rfl, hu⟩
  go_wp2_with fail
  go_ret
  exact ⟨rfl, hu⟩
set_option maxRecDepth 100000 in
theorem may2_any (x y : Int) (w : World) : Calls Try.prog 56 #[.agg #[.int .i64 x, .int .i64 y]] w fun e w' => e = .returned (.bool (!fileOk (x, y))) ∧ Up w w' := by
  have h0 : Up w (w.alloc (.cells #[.int .i64 x, .int .i64 y] 41)) := (Up.refl w).alloc _
  go_enter Try.func56, Try.ntmps56
  go_wp2_with fail
  refine (isFile_any x y _).mono ?_
  rintro e w2 ⟨rfl, hu⟩
  go_wp2_with fail
  go_ret
  exact ⟨rfl, h0.trans hu⟩
set_option maxRecDepth 100000 in
set_option maxHeartbeats 800000 in
theorem ixn_any (A : Option Addr) (n c : Nat) (l : List Int) (w : World) (hr : Rd w w.heap.size 1 A n (nmv l)) (hn : n ≤ 9223372036854775807) :
    Calls Try.prog 64 #[.slice A n c, .func (.func 55) #[] #[]] w fun e w' => e = .returned (.int .i64 (ixI (fun n => !numOk n) l)) ∧ Up w w' := by
  have HL := Lib.hid (show n = l.length by have := hr.1; rw [nmv_len] at this; omega)
  go_enter Try.func64, Try.ntmps64
  go_wp2_with fail
  go_loopw [8] (fun i wr => ∃ k : Nat, i = .int .i64 (k : Int) ∧ k ≤ n ∧ Hid (∀ j (hj : j < k) (hl : j < l.length), numOk l[j] = true) ∧ Up w wr) (fun i _ => n - (intOf i).toNat)
  case atStart => exact ⟨0, rfl, by omega, fun j hj => absurd hj (Nat.not_lt_zero _), Up.refl _⟩
  case round =>
    obtain ⟨k, rfl, hk, hall, hu⟩ := hrel
    by_cases hlt : k < n
    · have hkl : k < l.length := by have := HL.out; omega
      obtain ⟨b, o, rfl, hb, hc⟩ := hr.2 (by omega)
      have hck : wr.cell? ⟨b, o + k, none⟩ = some (.int .i64 l[k]) := (hu.cell (p := ⟨b, o + k, none⟩) hb).trans (hc k _ (by simp [nmv, hkl]))
      obtain ⟨x, hx⟩ : ∃ x, x = l[k] := ⟨_, rfl⟩
      rw [← hx] at hck
      have HX := Lib.hid hx
      clear hx hc
      go_wp2_with fail
      refine (may1_any x wr).mono ?_
      rintro e w2 ⟨rfl, hu2⟩
      obtain ⟨q, hq⟩ : ∃ q, q = numOk x := ⟨_, rfl⟩
      rw [← hq]
      have HQ := Lib.hid hq
      clear hck hq
      cases q
      · go_wp2_with fail
        go_ret
        refine ⟨?_, hu.trans hu2⟩
        rw [ixI_hit (k := k) hkl (fun j hj => by rw [hall.out j hj (by omega)]; rfl) (by rw [← HX.out, ← HQ.out]; rfl)]
        rfl
      · go_wp2_with fail
        go_roundw
        case rel =>
          refine ⟨k + 1, by go_num, by omega, ?_, hu.trans hu2⟩
          intro j hj hl
          by_cases hjk : j = k
          · subst hjk; rw [← HX.out, ← HQ.out]
          · exact hall.out j (by omega) hl
        case measure => simp [intOf]; omega
    · go_wp2_with fail
      go_ret
      refine ⟨?_, hu⟩
      rw [ixI_miss (fun j hj => by rw [hall.out j (by have := HL.out; omega) hj]; rfl)]
      rfl
set_option maxRecDepth 100000 in
theorem ctn_any (A : Option Addr) (n c : Nat) (l : List Int) (w : World) (hr : Rd w w.heap.size 1 A n (nmv l)) (hn : n ≤ 9223372036854775807) :
    Calls Try.prog 54 #[.slice A n c, .func (.func 55) #[] #[]] w fun e w' => e = .returned (.bool (!l.all numOk)) ∧ Up w w' := by
  have hany := ixI_any (fun n => !numOk n) l
  have hall : (l.any fun n => !numOk n) = !l.all numOk := by rw [List.not_all_eq_any_not]
  have HA := Lib.hid (hany.trans hall)
  clear hany hall
  go_enter Try.func54, Try.ntmps54
  go_wp2_with fail
  refine (ixn_any A n c l w hr hn).mono ?_
  rintro e w1 ⟨rfl, hu⟩
  generalize ixI (fun n => !numOk n) l = z at *
  go_wp2_with fail
  go_ret
  refine ⟨retb ?_, hu⟩
  rw [← HA.out]
set_option maxRecDepth 100000 in
set_option maxHeartbeats 1600000 in
theorem mayE_any (D : Option Addr) (dn dc : Nat) (ds : List Int) (A : Option Addr) (an ac : Nat) (add : List Fl) (lg : Int) (f ce at_ le : Nat) (w : World)
    (hd : Rd w w.heap.size 1 D dn (nmv ds)) (hdn : dn ≤ 9223372036854775807) (ha : Rd w w.heap.size 2 A an (fvs add)) (han : an ≤ 9223372036854775807) :
    Calls Try.prog 42 #[.agg #[.slice D dn dc, .slice A an ac, .int .i64 lg, .int .u64 (f : Int), .int .u64 (ce : Int), .int .u64 (at_ : Int), .int .u64 (le : Int)]] w fun e w' => e = .returned (.bool (mayE ds add lg f ce at_ le)) ∧ Up w w' := by
  have hv : mayE ds add lg f ce at_ le = (decide (dn ≤ 40) && (decide (an ≤ 40) && (decide (0 ≤ lg) && (decide (lg ≤ 1073741824) && ([f, ce, at_, le].all verOk && (ds.all numOk && add.all fileOk)))))) := by
    have h1 : dn = ds.length := by have := hd.1; rw [nmv_len] at this; omega
    have h2 := ha.flen
    unfold mayE; rw [h1, h2]
  have HV := Lib.hid hv
  clear hv
  obtain ⟨w1, hw1⟩ : ∃ w1, w1 = w.alloc (.cells #[.slice D dn dc, .slice A an ac, .int .i64 lg, .int .u64 (f : Int), .int .u64 (ce : Int), .int .u64 (at_ : Int), .int .u64 (le : Int)] 32) := ⟨_, rfl⟩
  have hup : Up w w1 := by rw [hw1]; exact (Up.refl w).alloc _
  have hb : w1.heap[w.heap.size]? = some (.cells #[.slice D dn dc, .slice A an ac, .int .i64 lg, .int .u64 (f : Int), .int .u64 (ce : Int), .int .u64 (at_ : Int), .int .u64 (le : Int)] 32 (0, 0)) := by rw [hw1]; exact heap_alloc_new w _
  have hd1 := hd.up hup
  have ha1 := ha.up hup
  clear hd ha
  have HW := Lib.hid hw1
  clear hw1
  by_cases k1 : dn ≤ 40
  · by_cases k2 : an ≤ 40
    · by_cases k3 : 0 ≤ lg
      · by_cases k4 : lg ≤ 1073741824
        · have d1 : (dn : Int) ≤ 40 := by omega
          have d2 : (an : Int) ≤ 40 := by omega
          have hm : Rd (w1.alloc (.cells #[.int .u64 (f : Int), .int .u64 (ce : Int), .int .u64 (at_ : Int), .int .u64 (le : Int)] 22)) (w1.alloc (.cells #[.int .u64 (f : Int), .int .u64 (ce : Int), .int .u64 (at_ : Int), .int .u64 (le : Int)] 22)).heap.size 1 (some ⟨w1.heap.size, 0, none⟩) 4 (uqs [f, ce, at_, le]) :=
            Rd.made w1 #[.int .u64 (f : Int), .int .u64 (ce : Int), .int .u64 (at_ : Int), .int .u64 (le : Int)] 22 rfl
          have hu3 : Up w1 (w1.alloc (.cells #[.int .u64 (f : Int), .int .u64 (ce : Int), .int .u64 (at_ : Int), .int .u64 (le : Int)] 22)) := (Up.refl w1).alloc _
          go_enter Try.func42, Try.ntmps42
          go_wp2_with fail
          have hsz : w1.heap.size = w.heap.size + 1 := by rw [HW.out]; simp
          rw [hsz] at hm
          rw [← HW.out]
          clear HW hsz
          generalize w1.alloc (.cells #[.int .u64 (f : Int), .int .u64 (ce : Int), .int .u64 (at_ : Int), .int .u64 (le : Int)] 22) = w3 at *
          generalize w.heap.size = gv at hb hm ⊢
          refine (meta_any _ 4 4 [f, ce, at_, le] w3 hm (by omega)).mono ?_
          rintro e w4 ⟨rfl, hu4⟩
          have hb4 := ((hu3.trans hu4).block _ (Array.getElem?_eq_some_iff.1 hb).1).trans hb
          have hd4 := hd1.up (hu3.trans hu4)
          have ha4 := ha1.up (hu3.trans hu4)
          have hup4 := hup.trans (hu3.trans hu4)
          generalize [f, ce, at_, le].all verOk = bm at *
          clear hb hm hu3 hu4 hd1 ha1 hup
          cases bm
          · clear hb4
            go_wp2_with fail
            go_ret
            refine ⟨retb ?_, hup4⟩
            rw [HV.out]
            simp
          · have t0 := blk_cell hb4 0
            go_wp2_with fail
            clear t0
            refine (ctn_any D dn dc ds w4 hd4 hdn).mono ?_
            rintro e w5 ⟨rfl, hu5⟩
            have hb5 := (hu5.block _ (Array.getElem?_eq_some_iff.1 hb4).1).trans hb4
            have ha5 := ha4.up hu5
            have hup5 := hup4.trans hu5
            generalize ds.all numOk = bn at *
            clear hb4 ha4 hup4 hu5 hd4
            cases bn
            · clear hb5
              go_wp2_with fail
              go_ret
              refine ⟨retb ?_, hup5⟩
              rw [HV.out]
              simp
            · have t1 := blk_cell hb5 1
              go_wp2_with fail
              clear t1
              refine (conf_any 56 #[] (fun x => !fileOk x) A an ac add w5 ha5 han (fun _ _ => rfl) (fun W x _ => may2_any x.1 x.2 W)).mono ?_
              rintro e w6 ⟨rfl, hu6⟩
              have hal : (add.any fun x => !fileOk x) = !add.all fileOk := by rw [List.not_all_eq_any_not]
              rw [hal]
              generalize add.all fileOk = bf at *
              go_wp2_with fail
              go_ret
              refine ⟨retb ?_, hup5.trans hu6⟩
              rw [HV.out]
              cases bf <;> (simp [k1, k2, k3, k4] <;> omega)
        · have d1 : (dn : Int) ≤ 40 := by omega
          have d2 : (an : Int) ≤ 40 := by omega
          go_enter Try.func42, Try.ntmps42
          go_wp2_with fail
          rw [← HW.out]
          go_ret
          refine ⟨retb ?_, hup⟩
          rw [HV.out]
          first | (simp [*]; done) | (simp [*]; omega)
      · have d1 : (dn : Int) ≤ 40 := by omega
        have d2 : (an : Int) ≤ 40 := by omega
        go_enter Try.func42, Try.ntmps42
        go_wp2_with fail
        rw [← HW.out]
        go_ret
        refine ⟨retb ?_, hup⟩
        rw [HV.out]
        first | (simp [*]; done) | (simp [*]; omega)
    · have d1 : (dn : Int) ≤ 40 := by omega
      have d2 : ¬ (an : Int) ≤ 40 := by omega
      go_enter Try.func42, Try.ntmps42
      go_wp2_with fail
      rw [← HW.out]
      go_ret
      refine ⟨retb ?_, hup⟩
      rw [HV.out]
      first | (simp [*]; done) | (simp [*]; omega)
  · have d1 : ¬ (dn : Int) ≤ 40 := by omega
    go_enter Try.func42, Try.ntmps42
    go_wp2_with fail
    rw [← HW.out]
    go_ret
    refine ⟨retb ?_, hup⟩
    rw [HV.out]
    first | (simp [*]; done) | (simp [*]; omega)
end Go.Proofs.Ytokcaoaclheiiaa
