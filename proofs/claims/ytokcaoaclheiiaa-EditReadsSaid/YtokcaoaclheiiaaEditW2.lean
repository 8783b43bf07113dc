/-
  The walks of edit's tests: IndexFunc and ContainsFunc of files, Ok.
-/
import Derived.Test.YtokcaoaclheiiaaEditW1
namespace Go.Proofs.Ytokcaoaclheiiaa
open Go.RowKit
set_option linter.unusedVariables false
set_option linter.unusedSimpArgs false

set_option maxRecDepth 100000 in
set_option maxHeartbeats 800000 in
theorem ixf_any (g : Nat) (lb : Array Value) (p : Fl → Bool) (A : Option Addr) (n c : Nat) (l : List Fl) (w : World) (hr : Rd w w.heap.size 2 A n (fvs l)) (hn : n ≤ 9223372036854775807)
    (eg : ∀ args w, (callFunc g args).run Try.prog w = .ok (.enter g args) w)
    (hp : ∀ (W : World) (x : Fl), Up w W → Calls Try.prog g (#[.agg #[.int .i64 x.1, .int .i64 x.2]] ++ lb) W fun e w' => e = .returned (.bool (p x)) ∧ Up W w') :
    Calls Try.prog 26 #[.slice A n c, .func (.func g) #[] lb] w fun e w' => e = .returned (.int .i64 (ixI p l)) ∧ Up w w' := by
  have HL := Lib.hid hr.flen
  have HP := Lib.hid hp
  clear hp
  go_enter Try.func26, Try.ntmps26
  go_wp2_with fail
  go_loopw [8] (fun i wr => ∃ k : Nat, i = .int .i64 (k : Int) ∧ k ≤ n ∧ Hid (∀ j (hj : j < k) (hl : j < l.length), p l[j] = false) ∧ Up w wr) (fun i _ => n - (intOf i).toNat)
  case atStart => exact ⟨0, rfl, by omega, fun j hj => absurd hj (Nat.not_lt_zero _), Up.refl _⟩
  case round =>
    obtain ⟨k, rfl, hk, hall, hu⟩ := hrel
    by_cases hlt : k < n
    · have hkl : k < l.length := by have := HL.out; omega
      obtain ⟨b, o, x, rfl, hb, hx, c0, c1⟩ := (hr.stay (Nat.le_refl _) hu).file_at hlt
      rw [List.getElem?_eq_getElem hkl] at hx
      injection hx with hx
      have HX := Lib.hid hx
      clear hx
      have hcall := HP.out wr x hu
      go_wp2_with fail
      refine hcall.mono ?_
      rintro e w2 ⟨rfl, hu2⟩
      obtain ⟨q, hq⟩ : ∃ q, q = p x := ⟨_, rfl⟩
      rw [← hq]
      have HQ := Lib.hid hq
      clear hq c0 c1 hcall
      cases q
      · go_wp2_with fail
        go_roundw
        case rel =>
          refine ⟨k + 1, by go_num, by omega, ?_, hu.trans hu2⟩
          intro j hj hl
          by_cases hjk : j = k
          · subst hjk; rw [HX.out, ← HQ.out]
          · exact hall.out j (by omega) hl
        case measure => simp [intOf]; omega
      · go_wp2_with fail
        go_ret
        refine ⟨?_, hu.trans hu2⟩
        rw [ixI_hit (k := k) hkl (fun j hj => hall.out j hj (by omega)) (by rw [HX.out, ← HQ.out])]
        rfl
    · go_wp2_with fail
      go_ret
      refine ⟨?_, hu⟩
      rw [ixI_miss (fun j hj => hall.out j (by have := HL.out; omega) hj)]
      rfl
set_option maxRecDepth 100000 in
theorem conf_any (g : Nat) (lb : Array Value) (p : Fl → Bool) (A : Option Addr) (n c : Nat) (l : List Fl) (w : World) (hr : Rd w w.heap.size 2 A n (fvs l)) (hn : n ≤ 9223372036854775807)
    (eg : ∀ args w, (callFunc g args).run Try.prog w = .ok (.enter g args) w)
    (hp : ∀ (W : World) (x : Fl), Up w W → Calls Try.prog g (#[.agg #[.int .i64 x.1, .int .i64 x.2]] ++ lb) W fun e w' => e = .returned (.bool (p x)) ∧ Up W w') :
    Calls Try.prog 33 #[.slice A n c, .func (.func g) #[] lb] w fun e w' => e = .returned (.bool (l.any p)) ∧ Up w w' := by
  have HA := Lib.hid (ixI_any p l)
  have HC := Lib.hid (ixf_any g lb p A n c l w hr hn eg hp)
  clear hp
  go_enter Try.func33, Try.ntmps33
  go_wp2_with fail
  refine HC.out.mono ?_
  rintro e w1 ⟨rfl, hu⟩
  generalize ixI p l = z at *
  go_wp2_with fail
  go_ret
  refine ⟨retb ?_, hu⟩
  rw [← HA.out]
set_option maxRecDepth 100000 in
theorem ok1_any (gp : Nat) (x y : Int) (z : Int) (w : World) (hg : gp < w.heap.size) (hc : w.cell? ⟨gp, 1, none⟩ = some (.int .i64 z)) :
    Calls Try.prog 34 #[.agg #[.int .i64 x, .int .i64 y], .pointer (some ⟨gp, 0, none⟩)] w fun e w' => e = .returned (.bool (decide (y = z))) ∧ Up w w' := by
  have h0 : Up w (w.alloc (.cells #[.int .i64 x, .int .i64 y] 41)) := (Up.refl w).alloc _
  have hc2 := (h0.cell (p := ⟨gp, 1, none⟩) hg).trans hc
  have hc1 : (w.alloc (.cells #[.int .i64 x, .int .i64 y] 41)).cell? ⟨w.heap.size, 1, none⟩ = some (.int .i64 y) := by simp
  go_enter Try.func34, Try.ntmps34
  go_wp2_with fail
  go_ret
  exact ⟨rfl, h0⟩
/-- files that may be, each with a number of its own -/
def okTo (l : List Fl) (k : Nat) : Bool := (List.range k).all fun i => fileOk (l.getD i (0, 0)) && !((l.take i).any fun g => decide (g.2 = (l.getD i (0, 0)).2))
theorem okTo_succ (l : List Fl) (k : Nat) : okTo l (k + 1) = (okTo l k && (fileOk (l.getD k (0, 0)) && !((l.take k).any fun g => decide (g.2 = (l.getD k (0, 0)).2)))) := by
  unfold okTo
  rw [List.range_succ, List.all_append]
  simp
theorem okTo_false {l : List Fl} {k n : Nat} (h : okTo l k = false) (hk : k ≤ n) : okTo l n = false := by
  induction n with
  | zero => have : k = 0 := by omega
            subst this; exact h
  | succ n ih =>
    by_cases hkn : k = n + 1
    · subst hkn; exact h
    · rw [okTo_succ, ih (by omega)]; rfl
def viewOk (lg : Int) (l : List Fl) (f ce at_ le : Nat) : Bool := numOk lg && decide (l.length ≤ 40) && [f, ce, at_, le].all verOk && okTo l l.length
set_option maxRecDepth 100000 in
set_option maxHeartbeats 1600000 in
theorem vok_any (lg : Int) (A : Option Addr) (n c : Nat) (l : List Fl) (f ce at_ le : Nat) (w : World) (hr : Rd w w.heap.size 2 A n (fvs l)) (hnc : n ≤ c) (hn : n ≤ 9223372036854775807) :
    Calls Try.prog 13 #[.agg #[.int .i64 lg, .slice A n c, .int .u64 (f : Int), .int .u64 (ce : Int), .int .u64 (at_ : Int), .int .u64 (le : Int)]] w fun e w' => e = .returned (.bool (viewOk lg l f ce at_ le)) ∧ Up w w' := by
  have hv : viewOk lg l f ce at_ le = (numOk lg && decide (l.length ≤ 40) && [f, ce, at_, le].all verOk && okTo l l.length) := rfl
  have HV := Lib.hid hv
  have HL := Lib.hid hr.flen
  clear hv
  have h0 : Up w (w.alloc (.cells #[.int .i64 lg, .slice A n c, .int .u64 (f : Int), .int .u64 (ce : Int), .int .u64 (at_ : Int), .int .u64 (le : Int)] 27)) := (Up.refl w).alloc _
  have hc0 : ∀ W, Up (w.alloc (.cells #[.int .i64 lg, .slice A n c, .int .u64 (f : Int), .int .u64 (ce : Int), .int .u64 (at_ : Int), .int .u64 (le : Int)] 27)) W →
      W.cell? ⟨w.heap.size, 1, none⟩ = some (.slice A n c) ∧ W.cell? ⟨w.heap.size, 2, none⟩ = some (.int .u64 (f : Int)) ∧ W.cell? ⟨w.heap.size, 3, none⟩ = some (.int .u64 (ce : Int)) ∧ W.cell? ⟨w.heap.size, 4, none⟩ = some (.int .u64 (at_ : Int)) ∧ W.cell? ⟨w.heap.size, 5, none⟩ = some (.int .u64 (le : Int)) := fun W h =>
    ⟨(h.cell (by simp)).trans (by simp), (h.cell (by simp)).trans (by simp), (h.cell (by simp)).trans (by simp), (h.cell (by simp)).trans (by simp), (h.cell (by simp)).trans (by simp)⟩
  go_enter Try.func13, Try.ntmps13
  go_wp2_with fail
  generalize w.alloc (.cells #[.int .i64 lg, .slice A n c, .int .u64 (f : Int), .int .u64 (ce : Int), .int .u64 (at_ : Int), .int .u64 (le : Int)] 27) = w1 at *
  generalize w.heap.size = gv at hc0 ⊢
  refine (isNum_any lg w1).mono ?_
  rintro e w2 ⟨rfl, hu2⟩
  obtain ⟨q1, q2, q3, q4, q5⟩ := hc0 w2 hu2
  obtain ⟨b0, hb0⟩ : ∃ b0, b0 = numOk lg := ⟨_, rfl⟩
  rw [← hb0] at HV ⊢
  clear hb0
  cases b0
  · clear q1 q2 q3 q4 q5 hc0
    go_wp2_with fail
    go_ret
    refine ⟨retb ?_, h0.trans hu2⟩
    rw [HV.out]; rfl
  · by_cases h40 : 40 < n
    · clear q2 q3 q4 q5 hc0
      have d40 : (40 : Int) < (n : Int) := by omega
      go_wp2_with fail
      go_ret
      refine ⟨retb ?_, h0.trans hu2⟩
      rw [HV.out, show decide (l.length ≤ 40) = false by simp; have := HL.out; omega]; rfl
    · have d40 : ¬ (40 : Int) < (n : Int) := by omega
      have hm : Rd (w2.alloc (.cells #[.int .u64 (f : Int), .int .u64 (ce : Int), .int .u64 (at_ : Int), .int .u64 (le : Int)] 22)) (w2.alloc (.cells #[.int .u64 (f : Int), .int .u64 (ce : Int), .int .u64 (at_ : Int), .int .u64 (le : Int)] 22)).heap.size 1 (some ⟨w2.heap.size, 0, none⟩) 4 (uqs [f, ce, at_, le]) :=
        Rd.made w2 #[.int .u64 (f : Int), .int .u64 (ce : Int), .int .u64 (at_ : Int), .int .u64 (le : Int)] 22 rfl
      have hu3 : Up w2 (w2.alloc (.cells #[.int .u64 (f : Int), .int .u64 (ce : Int), .int .u64 (at_ : Int), .int .u64 (le : Int)] 22)) := (Up.refl w2).alloc _
      go_wp2_with fail
      generalize w2.alloc (.cells #[.int .u64 (f : Int), .int .u64 (ce : Int), .int .u64 (at_ : Int), .int .u64 (le : Int)] 22) = w3 at *
      refine (meta_any _ 4 4 [f, ce, at_, le] w3 hm (by omega)).mono ?_
      rintro e w4 ⟨rfl, hu4⟩
      have hu24 := hu3.trans hu4
      generalize [f, ce, at_, le].all verOk = bm at *
      clear q2 q3 q4 q5 hm hu3 hu4
      cases bm
      · clear hc0 q1
        go_wp2_with fail
        go_ret
        refine ⟨retb ?_, h0.trans (hu2.trans hu24)⟩
        rw [HV.out, show decide (l.length ≤ 40) = true by simp; have := HL.out; omega]; rfl
      · have hle40 : decide (l.length ≤ 40) = true := by simp; have := HL.out; omega
        rw [hle40] at HV
        clear hle40
        have hc1 : ∀ W, Up w4 W → W.cell? ⟨gv, 1, none⟩ = some (.slice A n c) := fun W h => (hc0 W ((hu2.trans hu24).trans h)).1
        have hu04 := h0.trans (hu2.trans hu24)
        have hrd := hr.up hu04
        clear hc0 q1 h0 hr
        have q1 := hc1 w4 (Up.refl _)
        go_wp2_with fail
        clear q1
        go_loopw [31] (fun i wr => ∃ k : Nat, i = .int .i64 (k : Int) ∧ k ≤ n ∧ Hid (okTo l k = true) ∧ Up w4 wr) (fun i _ => n - (intOf i).toNat)
        case atStart => exact ⟨0, rfl, by omega, rfl, Up.refl _⟩
        case round =>
          obtain ⟨k, rfl, hk, hall, hu⟩ := hrel
          by_cases hlt : k < n
          · have hkl : k < l.length := by have := HL.out; omega
            obtain ⟨b, o, x, rfl, hb, hx, c0, c1⟩ := (hrd.up hu).file_at hlt
            have hxD : l.getD k (0, 0) = x := by rw [List.getD_eq_getElem?_getD, hx]; rfl
            have HX := Lib.hid hxD
            clear hx hxD
            obtain ⟨x1, x2⟩ := x
            simp only [] at c0 c1
            have hub : Up wr (wr.alloc (.cells #[.int .i64 x1, .int .i64 x2] 41)) := (Up.refl wr).alloc _
            have hcb : (wr.alloc (.cells #[.int .i64 x1, .int .i64 x2] 41)).cell? ⟨wr.heap.size, 1, none⟩ = some (.int .i64 x2) := by simp
            have hlb : wr.heap.size < (wr.alloc (.cells #[.int .i64 x1, .int .i64 x2] 41)).heap.size := by simp
            have q1 := hc1 wr hu
            go_wp2_with fail
            clear c0 c1 q1
            generalize wr.alloc (.cells #[.int .i64 x1, .int .i64 x2] 41) = w5 at *
            generalize wr.heap.size = gf at *
            refine (isFile_any x1 x2 w5).mono ?_
            rintro e w6 ⟨rfl, hu6⟩
            have hu46 := (hu.trans hub).trans hu6
            obtain ⟨bf, hbf⟩ : ∃ bf, bf = fileOk (x1, x2) := ⟨_, rfl⟩
            rw [← hbf]
            have HF := Lib.hid hbf
            clear hbf
            cases bf
            · clear hc1
              go_wp2_with fail
              go_ret
              refine ⟨retb ?_, hu04.trans hu46⟩
              have h1 : okTo l (k + 1) = false := by rw [okTo_succ, HX.out, ← HF.out, hall.out]; rfl
              rw [HV.out, okTo_false h1 (by omega)]; rfl
            · have q1 := hc1 w6 hu46
              have z1 : (0 : Int) ≤ (k : Int) := by omega
              have z2 : (k : Int) ≤ (c : Int) := by omega
              have hto := ((hrd.up hu46).fto (k := k) (by omega))
              have hcall := conf_any 34 #[.pointer (some ⟨gf, 0, none⟩)] (fun y => decide (y.2 = x2)) (some ⟨b, o, none⟩) k c (l.take k) w6 hto (by omega) (fun _ _ => rfl)
                (fun W y hW => ok1_any gf y.1 y.2 x2 W (by have := hu6.size; have := hW.size; omega) (((hu6.trans hW).cell (p := ⟨gf, 1, none⟩) hlb).trans hcb))
              go_wp2_with fail
              clear q1
              refine hcall.mono ?_
              rintro e w7 ⟨rfl, hu7⟩
              have hsucc : okTo l (k + 1) = !((l.take k).any fun g => decide (g.2 = x2)) := by
                rw [okTo_succ, HX.out, ← HF.out, hall.out]; rfl
              have HS := Lib.hid hsucc
              clear hsucc hcall hto
              generalize (l.take k).any (fun g => decide (g.2 = x2)) = ba at *
              cases ba
              · go_wp2_with fail
                go_roundw
                case rel => exact ⟨k + 1, by go_num, by omega, HS, hu46.trans hu7⟩
                case measure => simp [intOf]; omega
              · clear hc1
                go_wp2_with fail
                go_ret
                refine ⟨retb ?_, hu04.trans (hu46.trans hu7)⟩
                rw [HV.out, okTo_false HS.out (by omega)]; rfl
          · go_wp2_with fail
            go_ret
            have hkn : k = l.length := by have := HL.out; omega
            rw [hkn] at hall
            refine ⟨retb ?_, hu04.trans hu⟩
            rw [HV.out, hall.out]; rfl
end Go.Proofs.Ytokcaoaclheiiaa
