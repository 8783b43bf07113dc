/-
  The walks of item's tests: Ok, Less, Same, Wins, Hides; and of the document's.
-/
import Derived.Test.YtnbdijifhimogaaItem
namespace Go.Proofs.Ytnbdijifhimogaa
open Go.RowKit
set_option linter.unusedVariables false

/-- an item's numbers: may it be? -/
def okZ (s k : Int) (t v : Nat) (x : Int) : Bool := decide (0 ≤ s ∧ s ≤ 255 ∧ 1 ≤ v ∧ v ≤ 281474976710656 ∧ (k = 1 ∧ t = 0 ∧ x = 0 ∨ k = 2 ∧ t ≤ 1099511627776))
def lessZ (s k : Int) (t : Nat) (s' k' : Int) (t' : Nat) : Bool := decide (s < s' ∨ s = s' ∧ (k < k' ∨ k = k' ∧ t < t'))
def winsZ (v : Nat) (x : Int) (v' : Nat) (x' : Int) : Bool := decide (v' < v ∨ v = v' ∧ x' < x)
def hidesZ (s k : Int) (v : Nat) (s' k' : Int) (v' : Nat) : Bool := decide (k = 1 ∧ k' = 2 ∧ s = s' ∧ v' ≤ v)
def okB (i : It) : Bool := okZ i.s.toInt i.k.toInt i.t.toNat i.v.toNat i.x.toInt
def lessB (a b : It) : Bool := lessZ a.s.toInt a.k.toInt a.t.toNat b.s.toInt b.k.toInt b.t.toNat
def winsB (a b : It) : Bool := winsZ a.v.toNat a.x.toInt b.v.toNat b.x.toInt
def hidesB (a b : It) : Bool := hidesZ a.s.toInt a.k.toInt a.v.toNat b.s.toInt b.k.toInt b.v.toNat
def sameB (a b : It) : Bool := !lessB a b && !lessB b a

theorem ret_bool {a b : Bool} (h : a = b) : Ending.returned (.bool a) = .returned (.bool b) := by rw [h]

set_option maxRecDepth 100000 in
set_option maxHeartbeats 1600000 in
theorem ok_core (s k : Int) (t v : Nat) (x : Int) (w : World) :
    Calls Try.prog 40 #[.agg #[.int .i64 s, .int .i64 k, .int .u64 (t : Int), .int .u64 (v : Int), .int .i64 x]] w fun e w' => e = .returned (.bool (okZ s k t v x)) ∧ Up w w' := by
  have hs : okZ s k t v x = decide (0 ≤ s ∧ s ≤ 255 ∧ 1 ≤ v ∧ v ≤ 281474976710656 ∧ (k = 1 ∧ t = 0 ∧ x = 0 ∨ k = 2 ∧ t ≤ 1099511627776)) := rfl
  have HS := Lib.hid hs
  clear hs
  go_enter Try.func40, Try.ntmps40
  go_wp2
  all_goals
    go_ret
    refine ⟨ret_bool ?_, (Up.refl w).alloc _⟩
    rw [HS.out, Bool.eq_iff_iff]
    clear HS
    first | omega | (simp at *; done) | (simp at *; omega)




set_option maxRecDepth 100000 in
set_option maxHeartbeats 1600000 in
theorem rok_core (s k : Int) (t v : Nat) (x : Int) (w : World) :
    Calls Try.prog 41 #[.agg #[.int .i64 s, .int .i64 k, .int .u64 (t : Int), .int .u64 (v : Int), .int .i64 x]] w fun e w' => e = .returned (.bool (okZ s k t v x)) ∧ Up w w' := by
  have hs : okZ s k t v x = decide (0 ≤ s ∧ s ≤ 255 ∧ 1 ≤ v ∧ v ≤ 281474976710656 ∧ (k = 1 ∧ t = 0 ∧ x = 0 ∨ k = 2 ∧ t ≤ 1099511627776)) := rfl
  have HS := Lib.hid hs
  clear hs
  go_enter Try.func41, Try.ntmps41
  go_wp2
  all_goals
    go_ret
    refine ⟨ret_bool ?_, (Up.refl w).alloc _⟩
    rw [HS.out, Bool.eq_iff_iff]
    clear HS
    first | omega | (simp at *; done) | (simp at *; omega)




theorem ok_any (i : It) (w : World) : Calls Try.prog 40 #[.agg #[.int .i64 i.s.toInt, .int .i64 i.k.toInt, .int .u64 (i.t.toNat : Int), .int .u64 (i.v.toNat : Int), .int .i64 i.x.toInt]] w fun e w' => e = .returned (.bool (okB i)) ∧ Up w w' := ok_core _ _ _ _ _ w
theorem rok_any (i : It) (w : World) : Calls Try.prog 41 #[.agg #[.int .i64 i.s.toInt, .int .i64 i.k.toInt, .int .u64 (i.t.toNat : Int), .int .u64 (i.v.toNat : Int), .int .i64 i.x.toInt]] w fun e w' => e = .returned (.bool (okB i)) ∧ Up w w' := rok_core _ _ _ _ _ w
end Go.Proofs.Ytnbdijifhimogaa
