import Derived.Test.YtpifigalaembdaaItemW5
import Derived.Deep.RegionHeld3
import Derived.Deep.DeepCutAuto
namespace Go.Proofs.Ytpifigalaembdaa.itemTells
open Go.RowKit
set_option linter.unusedVariables false

set_option maxRecDepth 100000 in
set_option maxHeartbeats 3200000 in
theorem law_core (a1 a2 : Int) (a3 a4 : Nat) (a5 : Int) (b1 b2 : Int) (b3 b4 : Nat) (b5 : Int) (w w3 : World) (p1 p2 p3 p4 p5 : Bool) (ks : List UInt8)
    (hw : (w.alloc (.cells #[.int .i64 a1, .int .i64 a2, .int .u64 (a3 : Int), .int .u64 (a4 : Int), .int .i64 a5] 24)).alloc (.cells #[.int .i64 b1, .int .i64 b2, .int .u64 (b3 : Int), .int .u64 (b4 : Int), .int .i64 b5] 24) = w3) 
    (ha : ∀ W, Up w3 W → W.cell? ⟨w.heap.size, 0, none⟩ = some (.int .i64 a1) ∧ W.cell? ⟨w.heap.size, 1, none⟩ = some (.int .i64 a2) ∧ W.cell? ⟨w.heap.size, 2, none⟩ = some (.int .u64 (a3 : Int)) ∧ W.cell? ⟨w.heap.size, 3, none⟩ = some (.int .u64 (a4 : Int)) ∧ W.cell? ⟨w.heap.size, 4, none⟩ = some (.int .i64 a5))
    (hb : ∀ W, Up w3 W → W.cell? ⟨w.heap.size + 1, 0, none⟩ = some (.int .i64 b1) ∧ W.cell? ⟨w.heap.size + 1, 1, none⟩ = some (.int .i64 b2) ∧ W.cell? ⟨w.heap.size + 1, 2, none⟩ = some (.int .u64 (b3 : Int)) ∧ W.cell? ⟨w.heap.size + 1, 3, none⟩ = some (.int .u64 (b4 : Int)) ∧ W.cell? ⟨w.heap.size + 1, 4, none⟩ = some (.int .i64 b5))
    (C1 : Hid (∀ W, Up w3 W → Calls Try.prog 20 #[.agg #[.int .i64 a1, .int .i64 a2, .int .u64 (a3 : Int), .int .u64 (a4 : Int), .int .i64 a5]] W fun e w' => e = .returned (.bool p1) ∧ Up w3 w'))
    (R1 : Hid (∀ W, Up w3 W → Calls Try.prog 13 #[.agg #[.int .i64 a1, .int .i64 a2, .int .u64 (a3 : Int), .int .u64 (a4 : Int), .int .i64 a5]] W fun e w' => e = .returned (.bool p1) ∧ Up w3 w'))
    (C2 : Hid (∀ W, Up w3 W → Calls Try.prog 18 #[.agg #[.int .i64 a1, .int .i64 a2, .int .u64 (a3 : Int), .int .u64 (a4 : Int), .int .i64 a5], .agg #[.int .i64 b1, .int .i64 b2, .int .u64 (b3 : Int), .int .u64 (b4 : Int), .int .i64 b5]] W fun e w' => e = .returned (.bool p2) ∧ Up w3 w'))
    (R2 : Hid (∀ W, Up w3 W → Calls Try.prog 21 #[.agg #[.int .i64 a1, .int .i64 a2, .int .u64 (a3 : Int), .int .u64 (a4 : Int), .int .i64 a5], .agg #[.int .i64 b1, .int .i64 b2, .int .u64 (b3 : Int), .int .u64 (b4 : Int), .int .i64 b5]] W fun e w' => e = .returned (.bool p2) ∧ Up w3 w'))
    (C3 : Hid (∀ W, Up w3 W → Calls Try.prog 19 #[.agg #[.int .i64 a1, .int .i64 a2, .int .u64 (a3 : Int), .int .u64 (a4 : Int), .int .i64 a5], .agg #[.int .i64 b1, .int .i64 b2, .int .u64 (b3 : Int), .int .u64 (b4 : Int), .int .i64 b5]] W fun e w' => e = .returned (.bool p3) ∧ Up w3 w'))
    (R3 : Hid (∀ W, Up w3 W → Calls Try.prog 22 #[.agg #[.int .i64 a1, .int .i64 a2, .int .u64 (a3 : Int), .int .u64 (a4 : Int), .int .i64 a5], .agg #[.int .i64 b1, .int .i64 b2, .int .u64 (b3 : Int), .int .u64 (b4 : Int), .int .i64 b5]] W fun e w' => e = .returned (.bool p3) ∧ Up w3 w'))
    (C4 : Hid (∀ W, Up w3 W → Calls Try.prog 15 #[.agg #[.int .i64 a1, .int .i64 a2, .int .u64 (a3 : Int), .int .u64 (a4 : Int), .int .i64 a5], .agg #[.int .i64 b1, .int .i64 b2, .int .u64 (b3 : Int), .int .u64 (b4 : Int), .int .i64 b5]] W fun e w' => e = .returned (.bool p4) ∧ Up w3 w'))
    (R4 : Hid (∀ W, Up w3 W → Calls Try.prog 23 #[.agg #[.int .i64 a1, .int .i64 a2, .int .u64 (a3 : Int), .int .u64 (a4 : Int), .int .i64 a5], .agg #[.int .i64 b1, .int .i64 b2, .int .u64 (b3 : Int), .int .u64 (b4 : Int), .int .i64 b5]] W fun e w' => e = .returned (.bool p4) ∧ Up w3 w'))
    (C5 : Hid (∀ W, Up w3 W → Calls Try.prog 10 #[.agg #[.int .i64 a1, .int .i64 a2, .int .u64 (a3 : Int), .int .u64 (a4 : Int), .int .i64 a5], .agg #[.int .i64 b1, .int .i64 b2, .int .u64 (b3 : Int), .int .u64 (b4 : Int), .int .i64 b5]] W fun e w' => e = .returned (.bool p5) ∧ Up w3 w'))
    (R5 : Hid (∀ W, Up w3 W → Calls Try.prog 24 #[.agg #[.int .i64 a1, .int .i64 a2, .int .u64 (a3 : Int), .int .u64 (a4 : Int), .int .i64 a5], .agg #[.int .i64 b1, .int .i64 b2, .int .u64 (b3 : Int), .int .u64 (b4 : Int), .int .i64 b5]] W fun e w' => e = .returned (.bool p5) ∧ Up w3 w'))
    (CK : Hid (∀ W, Up w3 W → Calls Try.prog 17 #[.agg #[.int .i64 a1, .int .i64 a2, .int .u64 (a3 : Int), .int .u64 (a4 : Int), .int .i64 a5]] W fun e w' => ∃ A' n' c', e = .returned (.slice A' n' c') ∧ (∀ W', Up w' W' → (convert 31 9 (.slice A' n' c')).run Try.prog W' = .ok (.string ⟨ks.toArray⟩) W') ∧ Up w' w' ∧ Up w3 w'))
    (RK : Hid (∀ W, Up w3 W → Calls Try.prog 25 #[.agg #[.int .i64 a1, .int .i64 a2, .int .u64 (a3 : Int), .int .u64 (a4 : Int), .int .i64 a5]] W fun e w' => e = .returned (.string ⟨ks.toArray⟩) ∧ Up W w' ∧ Up w3 w'))
    (C0 : Hid (∀ W, Up w3 W → Calls Try.prog 11 #[] W fun e w' => e = .returned (.bool true) ∧ Up w3 w')) :
    Calls Try.prog 7 #[.agg #[.int .i64 a1, .int .i64 a2, .int .u64 (a3 : Int), .int .u64 (a4 : Int), .int .i64 a5], .agg #[.int .i64 b1, .int .i64 b2, .int .u64 (b3 : Int), .int .u64 (b4 : Int), .int .i64 b5]] w fun e w' => e = .returned (.bool true) ∧ Up w3 w' := by
  have hu : Up w3 ((w.alloc (.cells #[.int .i64 a1, .int .i64 a2, .int .u64 (a3 : Int), .int .u64 (a4 : Int), .int .i64 a5] 24)).alloc (.cells #[.int .i64 b1, .int .i64 b2, .int .u64 (b3 : Int), .int .u64 (b4 : Int), .int .i64 b5] 24)) := by rw [hw]; exact Up.refl _
  clear hw
  go_enter Try.func7, Try.ntmps7
  go_upto_region 1 with fail
  go_cut [45] (fun c wx => c = .bool false ∧ Up w3 wx)
  case first =>
    go_region_held3 (fun W => Up w3 W) (first | assumption | exact Up.drew (by assumption)) (first
      | (go_at_call 20; with_reducible refine (C1.out _ (by assumption)).mono ?_; rintro e W1 ⟨rfl, hu⟩)
      | (go_at_call 13; with_reducible refine (R1.out _ (by assumption)).mono ?_; rintro e W1 ⟨rfl, hu⟩)
      | (go_at_call 18; with_reducible refine (C2.out _ (by assumption)).mono ?_; rintro e W1 ⟨rfl, hu⟩)
      | (go_at_call 21; with_reducible refine (R2.out _ (by assumption)).mono ?_; rintro e W1 ⟨rfl, hu⟩)
      | (go_at_call 19; with_reducible refine (C3.out _ (by assumption)).mono ?_; rintro e W1 ⟨rfl, hu⟩)
      | (go_at_call 22; with_reducible refine (R3.out _ (by assumption)).mono ?_; rintro e W1 ⟨rfl, hu⟩)
      | (go_at_call 15; with_reducible refine (C4.out _ (by assumption)).mono ?_; rintro e W1 ⟨rfl, hu⟩)
      | (go_at_call 23; with_reducible refine (R4.out _ (by assumption)).mono ?_; rintro e W1 ⟨rfl, hu⟩)
      | (go_at_call 10; with_reducible refine (C5.out _ (by assumption)).mono ?_; rintro e W1 ⟨rfl, hu⟩)
      | (go_at_call 24; with_reducible refine (R5.out _ (by assumption)).mono ?_; rintro e W1 ⟨rfl, hu⟩))
    all_goals
      go_wp2_with fail
      go_meet
      exact ⟨rfl, by assumption⟩
  case rest =>
    obtain ⟨rfl, hu⟩ := hcut
    cases p1
    · go_wp2_with fail
      have hd := hu.drew
      go_region_with (first
        | (go_at_call 13; refine (R1.out _ ?_).mono ?_; (first | assumption | exact Up.drew (by assumption)); rintro e W1 ⟨rfl, hu⟩)
        | (go_at_call 11; refine (C0.out _ ?_).mono ?_; (first | assumption | exact Up.drew (by assumption)); rintro e W1 ⟨rfl, hu⟩))
      all_goals
        go_wp2_with fail
        go_ret
        exact ⟨rfl, by assumption⟩
    · go_wp2_with fail
      have hd := hu.drew
      go_region_with (first
        | (go_at_call 13; refine (R1.out _ ?_).mono ?_; (first | assumption | exact Up.drew (by assumption)); rintro e W1 ⟨rfl, hu⟩)
        | (go_at_call 17; refine (CK.out _ ?_).mono ?_; (first | assumption | exact Up.drew (by assumption)); rintro e W1 ⟨A', n', c', rfl, hcv, hrf, hu⟩)
        | (go_at_call 25; refine (RK.out _ ?_).mono ?_; (first | assumption | exact Up.drew (by assumption)); rintro e W1 ⟨rfl, hrk, hu⟩)
        | (go_at_call 11; refine (C0.out _ ?_).mono ?_; (first | assumption | exact Up.drew (by assumption)); rintro e W1 ⟨rfl, hu⟩))
      all_goals
        go_wp2_with fail
        go_ret
        exact ⟨rfl, by assumption⟩

theorem str_of {s : ByteArray} {l : List UInt8} (h : s.data.toList = l) : s = ⟨l.toArray⟩ := by
  subst h; rfl
theorem law_any (a b : It) (w : World) : Calls Try.prog 7 #[.agg (itc a).toArray, .agg (itc b).toArray] w fun e w' => e = .returned (.bool true) ∧ Up w w' := by
  have ha := lit_stay w a #[.int .i64 a.s.toInt, .int .i64 a.k.toInt, .int .u64 (a.t.toNat : Int), .int .u64 (a.v.toNat : Int), .int .i64 a.x.toInt] 24 rfl rfl
  have hb := lit_stay (w.alloc (.cells #[.int .i64 a.s.toInt, .int .i64 a.k.toInt, .int .u64 (a.t.toNat : Int), .int .u64 (a.v.toNat : Int), .int .i64 a.x.toInt] 24)) b #[.int .i64 b.s.toInt, .int .i64 b.k.toInt, .int .u64 (b.t.toNat : Int), .int .u64 (b.v.toNat : Int), .int .i64 b.x.toInt] 24 (g := w.heap.size + 1) (World.size_alloc _ _) rfl
  have ha3 := fun W (h : Up ((w.alloc (.cells #[.int .i64 a.s.toInt, .int .i64 a.k.toInt, .int .u64 (a.t.toNat : Int), .int .u64 (a.v.toNat : Int), .int .i64 a.x.toInt] 24)).alloc (.cells #[.int .i64 b.s.toInt, .int .i64 b.k.toInt, .int .u64 (b.t.toNat : Int), .int .u64 (b.v.toNat : Int), .int .i64 b.x.toInt] 24)) W) => ha W (((Up.refl _).alloc _).trans h)
  have hup : Up w ((w.alloc (.cells #[.int .i64 a.s.toInt, .int .i64 a.k.toInt, .int .u64 (a.t.toNat : Int), .int .u64 (a.v.toNat : Int), .int .i64 a.x.toInt] 24)).alloc (.cells #[.int .i64 b.s.toInt, .int .i64 b.k.toInt, .int .u64 (b.t.toNat : Int), .int .u64 (b.v.toNat : Int), .int .i64 b.x.toInt] 24)) := ((Up.refl w).alloc _).alloc _
  refine (law_core a.s.toInt a.k.toInt a.t.toNat a.v.toNat a.x.toInt b.s.toInt b.k.toInt b.t.toNat b.v.toNat b.x.toInt w ((w.alloc (.cells #[.int .i64 a.s.toInt, .int .i64 a.k.toInt, .int .u64 (a.t.toNat : Int), .int .u64 (a.v.toNat : Int), .int .i64 a.x.toInt] 24)).alloc (.cells #[.int .i64 b.s.toInt, .int .i64 b.k.toInt, .int .u64 (b.t.toNat : Int), .int .u64 (b.v.toNat : Int), .int .i64 b.x.toInt] 24)) (okB a) (lessB a b) (sameB a b) (winsB a b) (hidesB a b) (keyB a) rfl ha3 hb (keepUp (ok_any a) _) (keepUp (rok_any a) _) (keepUp (less_any a b) _) (keepUp (rless_any a b) _) (keepUp (same_any a b) _) (keepUp (rsame_any a b) _) (keepUp (wins_any a b) _) (keepUp (rwins_any a b) _) (keepUp (hides_any a b) _) (keepUp (rhides_any a b) _) ?_ ?_ (keepUp awake5_any _)).mono fun e w' ⟨he, hu⟩ => ⟨he, hup.trans hu⟩
  · intro W hW
    refine (key_any a W).mono ?_
    rintro e w' ⟨A', n', c', rfl, ho, hu⟩
    exact ⟨A', n', c', rfl, fun W' hW' => run_str c' (ho.rd.up hW'), Up.refl _, hW.trans hu⟩
  · intro W hW
    refine (rkey_any a W).mono ?_
    rintro e w' ⟨s, rfl, hs, hu⟩
    exact ⟨by rw [str_of hs.out], hu, hW.trans hu⟩
end Go.Proofs.Ytpifigalaembdaa.itemTells
