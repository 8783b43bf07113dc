/-
  Rows of numbers of the call's own.
-/
import Derived.Test.YtokcaoaclheiiaaBase
namespace Go.Proofs.Ytokcaoaclheiiaa
open Go.RowKit
set_option linter.unusedVariables false

theorem numsT : SlT Try.prog 75 22 1 8 := SlT.mk' Try.underlying75 (z := .int .u64 0) (by kernel_rfl) rfl (by decide)
def OwnQ (w : World) (base : Nat) (A : Option Addr) (n c : Nat) (l : List UInt64) : Prop := w.ownsRow base 22 1 (.slice A n c) n (qvs l)
section
variable {w w' : World} {base n c : Nat} {A : Option Addr} {q : List UInt64}
theorem OwnQ.rd (h : OwnQ w base A n c q) : Rd w w.heap.size 1 A n (qvs q) := Rd.own h
theorem OwnQ.len (h : OwnQ w base A n c q) : n = q.length := by have := h.1; simp only [qvs_length] at this; omega
theorem OwnQ.up (h : OwnQ w base A n c q) (hu : Up w w') : OwnQ w' base A n c q := own_up h hu
end
end Go.Proofs.Ytokcaoaclheiiaa
