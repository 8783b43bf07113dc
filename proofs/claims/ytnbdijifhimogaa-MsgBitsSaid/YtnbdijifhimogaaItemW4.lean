/-
  The walks of the laws of items: awake, Some; of the document's May, Equal.
-/
import Derived.Test.YtnbdijifhimogaaItemW3
import Derived.Deep.QuietTactic
import Derived.BigQuiet
namespace Go.Proofs.Ytnbdijifhimogaa
open Go.RowKit
set_option linter.unusedVariables false

/-- what stays as it is in whatever world behind w -/
theorem cells_stay {w : World} {B g : Nat} {i : It} (h : Rd w B 5 (some ⟨g, 0, none⟩) 1 (itc i)) (hB : B ≤ w.heap.size) : ∀ W, Up w W →
    W.cell? ⟨g, 0, none⟩ = some (.int .i64 i.s.toInt) ∧ W.cell? ⟨g, 1, none⟩ = some (.int .i64 i.k.toInt) ∧ W.cell? ⟨g, 2, none⟩ = some (.int .u64 (i.t.toNat : Int)) ∧ W.cell? ⟨g, 3, none⟩ = some (.int .u64 (i.v.toNat : Int)) ∧ W.cell? ⟨g, 4, none⟩ = some (.int .i64 i.x.toInt) :=
  fun _ hW => five_cells (h.stay hB hW)

theorem lit_stay (w : World) (i : It) (cs : Array Value) (t : TypeId) {g : Nat} (hg : w.heap.size = g) (h : cs.toList = itc i) : ∀ W, Up (w.alloc (.cells cs t)) W →
    W.cell? ⟨g, 0, none⟩ = some (.int .i64 i.s.toInt) ∧ W.cell? ⟨g, 1, none⟩ = some (.int .i64 i.k.toInt) ∧ W.cell? ⟨g, 2, none⟩ = some (.int .u64 (i.t.toNat : Int)) ∧ W.cell? ⟨g, 3, none⟩ = some (.int .u64 (i.v.toNat : Int)) ∧ W.cell? ⟨g, 4, none⟩ = some (.int .i64 i.x.toInt) := by
  have h1 := Rd.ilit_at w [i] cs t hg (by simp [itcs, h])
  simp only [itcs, List.flatMap_singleton, List.length_singleton] at h1
  exact cells_stay h1 (Nat.le_refl _)

/-- a literal of five cells -/
theorem cells5 (w : World) (v0 v1 v2 v3 v4 : Value) (t : TypeId) {g : Nat} (hg : w.heap.size = g) : ∀ W, Up (w.alloc (.cells #[v0, v1, v2, v3, v4] t)) W →
    W.cell? ⟨g, 0, none⟩ = some v0 ∧ W.cell? ⟨g, 1, none⟩ = some v1 ∧ W.cell? ⟨g, 2, none⟩ = some v2 ∧ W.cell? ⟨g, 3, none⟩ = some v3 ∧ W.cell? ⟨g, 4, none⟩ = some v4 := by
  subst hg
  intro W hW
  have h : ∀ j, W.cell? ⟨w.heap.size, j, none⟩ = (w.alloc (.cells #[v0, v1, v2, v3, v4] t)).cell? ⟨w.heap.size, j, none⟩ := fun j => hW.cell (by simp)
  have h2 : ∀ j, W.cell? ⟨w.heap.size, j, none⟩ = #[v0, v1, v2, v3, v4][j]? := fun j => by rw [h j, World.cell?_alloc_at (w := w) _ t _ _ rfl]
  exact ⟨h2 0, h2 1, h2 2, h2 3, h2 4⟩
/-- a contract that turns nothing that is there, told from a world behind which the call stands -/
theorem keepUp {P : Program} {f : FuncId} {args : Array Value} {v : Value} (h : ∀ W, Calls P f args W fun e w' => e = .returned v ∧ Up W w') (w3 : World) : Hid (∀ W, Up w3 W → Calls P f args W fun e w' => e = .returned v ∧ Up w3 w') :=
  fun W hW => (h W).mono fun e w' ⟨he, hu⟩ => ⟨he, hW.trans hu⟩

end Go.Proofs.Ytnbdijifhimogaa
