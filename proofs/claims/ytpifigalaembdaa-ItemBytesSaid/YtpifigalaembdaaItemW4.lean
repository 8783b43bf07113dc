/-
  The walks of the laws of items: awake, Some; of the document's May, Equal.
-/
import Derived.Test.YtpifigalaembdaaItemW3
import Derived.Deep.QuietTactic
import Derived.BigQuiet
namespace Go.Proofs.Ytpifigalaembdaa
open Go.RowKit
set_option linter.unusedVariables false

/-- what stays as it is in whatever world behind w -/
theorem cells_stay {w : World} {B g : Nat} {i : It} (h : Rd w B 5 (some ⟨g, 0, none⟩) 1 (itc i)) (hB : B ≤ w.heap.size) : ∀ W, Up w W →
    W.cell? ⟨g, 0, none⟩ = some (.int .i64 i.s.toInt) ∧ W.cell? ⟨g, 1, none⟩ = some (.int .i64 i.k.toInt) ∧ W.cell? ⟨g, 2, none⟩ = some (.int .u64 (i.t.toNat : Int)) ∧ W.cell? ⟨g, 3, none⟩ = some (.int .u64 (i.v.toNat : Int)) ∧ W.cell? ⟨g, 4, none⟩ = some (.int .i64 i.x.toInt) :=
  fun _ hW => five_cells (h.stay hB hW)

theorem lit_stay (w : World) (i : It) (cs : Array Value) (t : TypeId) {g : Nat} (hg : w.heap.size = g) (h : cs.toList = itc i) : ∀ W, Up (w.alloc (.cells cs t)) W →
    W.cell? ⟨g, 0, none⟩ = some (.int .i64 i.s.toInt) ∧ W.cell? ⟨g, 1, none⟩ = some (.int .i64 i.k.toInt) ∧ W.cell? ⟨g, 2, none⟩ = some (.int .u64 (i.t.toNat : Int)) ∧ W.cell? ⟨g, 3, none⟩ = some (.int .u64 (i.v.toNat : Int)) ∧ W.cell? ⟨g, 4, none⟩ = some (.int .i64 i.x.toInt) := by
  have h1 := Rd.ilit_at w [i] cs t hg (by simp [itcs, h])
  simp only [itcs, List.flatMap_singleton, List.length_singleton] at h1
  exact cells_stay h1 (Nat.le_refl _)

/-- a literal of five cells -/
theorem cells5 (w : World) (v0 v1 v2 v3 v4 : Value) (t : TypeId) {g : Nat} (hg : w.heap.size = g) : ∀ W, Up (w.alloc (.cells #[v0, v1, v2, v3, v4] t)) W →
    W.cell? ⟨g, 0, none⟩ = some v0 ∧ W.cell? ⟨g, 1, none⟩ = some v1 ∧ W.cell? ⟨g, 2, none⟩ = some v2 ∧ W.cell? ⟨g, 3, none⟩ = some v3 ∧ W.cell? ⟨g, 4, none⟩ = some v4 := by
  subst hg
  intro W hW
  have h : ∀ j, W.cell? ⟨w.heap.size, j, none⟩ = (w.alloc (.cells #[v0, v1, v2, v3, v4] t)).cell? ⟨w.heap.size, j, none⟩ := fun j => hW.cell (by simp)
  have h2 : ∀ j, W.cell? ⟨w.heap.size, j, none⟩ = #[v0, v1, v2, v3, v4][j]? := fun j => by rw [h j, World.cell?_alloc_at (w := w) _ t _ _ rfl]
  exact ⟨h2 0, h2 1, h2 2, h2 3, h2 4⟩
/-- a contract that turns nothing that is there, told from a world behind which the call stands -/
theorem keepUp {P : Program} {f : FuncId} {args : Array Value} {v : Value} (h : ∀ W, Calls P f args W fun e w' => e = .returned v ∧ Up W w') (w3 : World) : Hid (∀ W, Up w3 W → Calls P f args W fun e w' => e = .returned v ∧ Up w3 w') :=
  fun W hW => (h W).mono fun e w' ⟨he, hu⟩ => ⟨he, hW.trans hu⟩

def itA : It := ⟨3, 1, 0, 5, 0⟩
def itX : It := ⟨3, 2, 0, 4, 0⟩
theorem itX_E : bytesE [itX] = 0 := by decide +kernel
theorem itX_len : (bytesL [] [itX]).length = 6 := by
  rw [bytesL_yes itX_E]
  have e1 : signN itX.x.toInt = 0 := by decide +kernel
  have e2 : itX.t.toNat = 0 := by decide +kernel
  have e3 : itX.v.toNat = 4 := by decide +kernel
  simp only [itemsB, List.length_singleton, List.flatMap_cons, List.flatMap_nil, itB, e1, e2, e3, List.nil_append]
  rw [numB_lo (n := 1) (by omega), numB_lo (n := 0) (by omega), numB_lo (n := 4) (by omega)]
  rfl
theorem itX_c : itc itX = [.int .i64 3, .int .i64 2, .int .u64 0, .int .u64 4, .int .i64 0] := by kernel_rfl
theorem itA_c : itc itA = [.int .i64 3, .int .i64 1, .int .u64 0, .int .u64 5, .int .i64 0] := by kernel_rfl

set_option maxRecDepth 100000 in
set_option maxHeartbeats 1600000 in
theorem awake5_any (w : World) : Calls Try.prog 11 #[] w fun e w' => e = .returned (.bool true) ∧ Up w w' := by
  go_enter Try.func11, Try.ntmps11
  go_wp2_with fail
  refine (bytes_any none 0 0 [] _ 1 1 [itX] _ Rd.empty (Rd.ilit_at _ [itX] _ _ (by simp) (by simp [itcs, itX_c])) (by omega) (by omega)).mono ?_
  rintro e w1 ⟨A1, n1, c1, rfl, ho1, hu1⟩
  have hl1 := ho1.len
  rw [itX_len] at hl1
  subst hl1
  have hup : Up w w1 := ((((Up.refl w).alloc _).alloc _).alloc _).trans hu1
  rw [itX_E]
  clear ho1
  have ha := lit_stay w itA #[.int .i64 3, .int .i64 1, .int .u64 0, .int .u64 5, .int .i64 0] 24 rfl itA_c.symm
  have hb := lit_stay (w.alloc (.cells #[.int .i64 3, .int .i64 1, .int .u64 0, .int .u64 5, .int .i64 0] 24)) itX #[.int .i64 3, .int .i64 2, .int .u64 0, .int .u64 4, .int .i64 0] 24 (World.size_alloc _ _) itX_c.symm
  have ha' := fun W (h : Up w1 W) => ha W ((((Up.refl _).alloc _).alloc _).trans (hu1.trans h))
  have hb' := fun W (h : Up w1 W) => hb W (((Up.refl _).alloc _).trans (hu1.trans h))
  clear ha hb hu1
  have e1 : hidesB itA itX = true := by decide +kernel
  have e2 : hidesB itX itA = false := by decide +kernel
  have e3 : okB itA = true := by decide +kernel
  have c1 := hides_any itA itX
  have c2 := hides_any itX itA
  have c3 := ok_any itA
  have c4 := key_any itX
  rw [e1] at c1
  rw [e2] at c2
  rw [e3] at c3
  have a1 : itA.s.toInt = 3 := by decide +kernel
  have a2 : itA.k.toInt = 1 := by decide +kernel
  have a3 : itA.t.toNat = 0 := by decide +kernel
  have a4 : itA.v.toNat = 5 := by decide +kernel
  have a5 : itA.x.toInt = 0 := by decide +kernel
  have b1 : itX.s.toInt = 3 := by decide +kernel
  have b2 : itX.k.toInt = 2 := by decide +kernel
  have b3 : itX.t.toNat = 0 := by decide +kernel
  have b4 : itX.v.toNat = 4 := by decide +kernel
  have b5 : itX.x.toInt = 0 := by decide +kernel
  simp only [a1, a2, a3, a4, a5, b1, b2, b3, b4, b5] at ha' hb' c1 c2 c3 c4
  clear a1 a2 a3 a4 a5 b1 b2 b3 b4 b5 e1 e2 e3
  have c4' : ∀ W, Calls Try.prog 17 #[.agg #[.int .i64 3, .int .i64 2, .int .u64 ((0 : Nat) : Int), .int .u64 ((4 : Nat) : Int), .int .i64 0]] W fun e w' => ∃ A' c', e = .returned (.slice A' 10 c') ∧ Up W w' := fun W => (c4 W).mono (by
    rintro e w' ⟨A', n', c', rfl, ho, hu⟩
    have h10 : n' = 10 := by have := ho.len; rw [this]; decide +kernel
    subst h10
    exact ⟨A', c', rfl, hu⟩)
  have C1 := Lib.hid c1
  have C2 := Lib.hid c2
  have C3 := Lib.hid c3
  have C4 := Lib.hid c4'
  clear c1 c2 c3 c4 c4'
  have hr1 := Up.refl w1
  go_wp2_with fail
  refine (C1.out _).mono ?_
  rintro e w2 ⟨rfl, hu2⟩
  go_wp2_with fail
  refine (C2.out _).mono ?_
  rintro e w3 ⟨rfl, hu3⟩
  have hu13 := hu2.trans hu3
  go_wp2_with fail
  refine (C3.out _).mono ?_
  rintro e w4 ⟨rfl, hu4⟩
  have hu14 := hu13.trans hu4
  go_wp2_with fail
  refine (C4.out _).mono ?_
  rintro e w5 ⟨A', c', rfl, hu5⟩
  go_wp2_with fail
  go_ret
  exact ⟨rfl, hup.trans (hu14.trans hu5)⟩
end Go.Proofs.Ytpifigalaembdaa
