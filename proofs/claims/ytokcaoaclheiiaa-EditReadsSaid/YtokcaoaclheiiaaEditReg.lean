/-
  Views in regions that draw: what a call of Apply hands back, and where it is laid.
-/
import Derived.Test.YtokcaoaclheiiaaEditLaw
namespace Go.Proofs.Ytokcaoaclheiiaa
open Go.RowKit
set_option linter.unusedVariables false
set_option linter.unusedSimpArgs false

abbrev VT := Int × List Fl × Nat × Nat × Nat × Nat
def TV (x : VT) (R : Option Addr) (n : Nat) : Value := .agg #[.int .i64 x.1, .slice R n n, .int .u64 (x.2.2.1 : Int), .int .u64 (x.2.2.2.1 : Int), .int .u64 (x.2.2.2.2.1 : Int), .int .u64 (x.2.2.2.2.2 : Int)]
def TT (x : VT) (R : Option Addr) (n : Nat) : Value := .tuple #[TV x R n, .bool true]
theorem TT_inj {x : VT} {R R' : Option Addr} {n : Nat} (h : TT x R n = TT x R' n) : R = R' := by
  simp [TT, TV] at h
  exact h
def OwnT (x : VT) (n : Nat) (v : Value) (g : Nat) : Prop := ∃ o s, v = TT x (some ⟨g, o, s⟩) n
def GT (x : VT) (n B : Nat) (v : Value) (W : World) : Prop := ∃ R, v = TT x R n ∧ Rd W W.heap.size 2 R n (fvs x.2.1) ∧ ∀ a, R = some a → B ≤ a.block
theorem GT.sta {x : VT} {n B : Nat} {v : Value} {w w' : World} {Y : Nat → Prop} (h : GT x n B v w) (hs : Rg.Sta (fun g => Y g ∨ OwnT x n v g) w w') : GT x n B v w' := by
  obtain ⟨R, rfl, hrd, hb⟩ := h
  refine ⟨R, rfl, ⟨hrd.1, fun hn => ?_⟩, hb⟩
  obtain ⟨b, o, rfl, hlt, hc⟩ := hrd.2 hn
  exact ⟨b, o, rfl, Nat.lt_of_lt_of_le hlt hs.size, fun j u hu => sta_some hs (hc j u hu) (.inr ⟨o, none, rfl⟩)⟩
theorem Rd.keepsNe {w w' : World} {B sz n g : Nat} {A : Option Addr} {xs : List Value} (h : Rd w B sz A n xs) (hB : B ≤ w.heap.size) (hne : ∀ a, A = some a → a.block ≠ g) (hK : Rg.Keeps (fun y => y = g) w w') : Rd w' w'.heap.size sz A n xs := by
  refine ⟨h.1, fun hn => ?_⟩
  obtain ⟨b, o, rfl, hb, hc⟩ := h.2 hn
  refine ⟨b, o, rfl, Nat.lt_of_lt_of_le (Nat.lt_of_lt_of_le hb hB) hK.size, fun j u hu => ?_⟩
  exact (World.cell?_of_block (hK.block b (Nat.lt_of_lt_of_le hb hB) (hne _ rfl))).trans (hc j u hu)
/-- a view as it lies in a block of its own -/
structure VB (lg : Int) (l : List Fl) (f ce at_ le : Nat) (g : Nat) (A : Option Addr) (n : Nat) (w : World) : Prop where
  blk : w.heap[g]? = some (.cells #[.int .i64 lg, .slice A n n, .int .u64 (f : Int), .int .u64 (ce : Int), .int .u64 (at_ : Int), .int .u64 (le : Int)] 27 (0, 0))
  rd : Rd w w.heap.size 2 A n (fvs l)
theorem VB.up {lg : Int} {l : List Fl} {f ce at_ le g n : Nat} {A : Option Addr} {w w' : World} (h : VB lg l f ce at_ le g A n w) (hu : Up w w') : VB lg l f ce at_ le g A n w' :=
  ⟨(hu.block _ (Array.getElem?_eq_some_iff.1 h.blk).1).trans h.blk, h.rd.up hu⟩
theorem VB.lt {lg : Int} {l : List Fl} {f ce at_ le g n : Nat} {A : Option Addr} {w : World} (h : VB lg l f ce at_ le g A n w) : g < w.heap.size := (Array.getElem?_eq_some_iff.1 h.blk).1
theorem VB.len {lg : Int} {l : List Fl} {f ce at_ le g n : Nat} {A : Option Addr} {w : World} (h : VB lg l f ce at_ le g A n w) : n = l.length := h.rd.flen
end Go.Proofs.Ytokcaoaclheiiaa
