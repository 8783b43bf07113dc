/-
  The walks of item's tests: Ok, Less, Same, Wins, Hides; and of the document's.
-/
import Derived.Test.YtpifigalaembdaaItem
namespace Go.Proofs.Ytpifigalaembdaa
open Go.RowKit
set_option linter.unusedVariables false

/-- an item's numbers: may it be? -/
def okZ (s k : Int) (t v : Nat) (x : Int) : Bool := decide (0 ≤ s ∧ s ≤ 255 ∧ 1 ≤ v ∧ v ≤ 281474976710656 ∧ (k = 1 ∧ t = 0 ∧ x = 0 ∨ k = 2 ∧ t ≤ 1099511627776))
def lessZ (s k : Int) (t : Nat) (s' k' : Int) (t' : Nat) : Bool := decide (s < s' ∨ s = s' ∧ (k < k' ∨ k = k' ∧ t < t'))
def winsZ (v : Nat) (x : Int) (v' : Nat) (x' : Int) : Bool := decide (v' < v ∨ v = v' ∧ x' < x)
def hidesZ (s k : Int) (v : Nat) (s' k' : Int) (v' : Nat) : Bool := decide (k = 1 ∧ k' = 2 ∧ s = s' ∧ v' ≤ v)
def okB (i : It) : Bool := okZ i.s.toInt i.k.toInt i.t.toNat i.v.toNat i.x.toInt
def lessB (a b : It) : Bool := lessZ a.s.toInt a.k.toInt a.t.toNat b.s.toInt b.k.toInt b.t.toNat
def winsB (a b : It) : Bool := winsZ a.v.toNat a.x.toInt b.v.toNat b.x.toInt
def hidesB (a b : It) : Bool := hidesZ a.s.toInt a.k.toInt a.v.toNat b.s.toInt b.k.toInt b.v.toNat
def sameB (a b : It) : Bool := !lessB a b && !lessB b a

theorem ret_bool {a b : Bool} (h : a = b) : Ending.returned (.bool a) = .returned (.bool b) := by rw [h]

set_option maxRecDepth 100000 in
set_option maxHeartbeats 1600000 in
theorem ok_core (s k : Int) (t v : Nat) (x : Int) (w : World) :
    Calls Try.prog 20 #[.agg #[.int .i64 s, .int .i64 k, .int .u64 (t : Int), .int .u64 (v : Int), .int .i64 x]] w fun e w' => e = .returned (.bool (okZ s k t v x)) ∧ Up w w' := by
  have hs : okZ s k t v x = decide (0 ≤ s ∧ s ≤ 255 ∧ 1 ≤ v ∧ v ≤ 281474976710656 ∧ (k = 1 ∧ t = 0 ∧ x = 0 ∨ k = 2 ∧ t ≤ 1099511627776)) := rfl
  have HS := Lib.hid hs
  clear hs
  go_enter Try.func20, Try.ntmps20
  go_wp2
  all_goals
    go_ret
    refine ⟨ret_bool ?_, (Up.refl w).alloc _⟩
    rw [HS.out, Bool.eq_iff_iff]
    clear HS
    first | omega | (simp at *; done) | (simp at *; omega)

set_option maxRecDepth 100000 in
set_option maxHeartbeats 1600000 in
theorem less_core (s k : Int) (t v : Nat) (x : Int) (s' k' : Int) (t' v' : Nat) (x' : Int) (w : World) :
    Calls Try.prog 18 #[.agg #[.int .i64 s, .int .i64 k, .int .u64 (t : Int), .int .u64 (v : Int), .int .i64 x], .agg #[.int .i64 s', .int .i64 k', .int .u64 (t' : Int), .int .u64 (v' : Int), .int .i64 x']] w fun e w' => e = .returned (.bool (lessZ s k t s' k' t')) ∧ Up w w' := by
  have hs : lessZ s k t s' k' t' = decide (s < s' ∨ s = s' ∧ (k < k' ∨ k = k' ∧ t < t')) := rfl
  have HS := Lib.hid hs
  clear hs
  go_enter Try.func18, Try.ntmps18
  go_wp2
  all_goals
    go_ret
    refine ⟨ret_bool ?_, ((Up.refl w).alloc _).alloc _⟩
    rw [HS.out, Bool.eq_iff_iff]
    clear HS
    first | omega | (simp at *; done) | (simp at *; omega)

set_option maxRecDepth 100000 in
set_option maxHeartbeats 1600000 in
theorem wins_core (s k : Int) (t v : Nat) (x : Int) (s' k' : Int) (t' v' : Nat) (x' : Int) (w : World) :
    Calls Try.prog 15 #[.agg #[.int .i64 s, .int .i64 k, .int .u64 (t : Int), .int .u64 (v : Int), .int .i64 x], .agg #[.int .i64 s', .int .i64 k', .int .u64 (t' : Int), .int .u64 (v' : Int), .int .i64 x']] w fun e w' => e = .returned (.bool (winsZ v x v' x')) ∧ Up w w' := by
  have hs : winsZ v x v' x' = decide (v' < v ∨ v = v' ∧ x' < x) := rfl
  have HS := Lib.hid hs
  clear hs
  go_enter Try.func15, Try.ntmps15
  go_wp2
  all_goals
    go_ret
    refine ⟨ret_bool ?_, ((Up.refl w).alloc _).alloc _⟩
    rw [HS.out, Bool.eq_iff_iff]
    clear HS
    first | omega | (simp at *; done) | (simp at *; omega)

set_option maxRecDepth 100000 in
set_option maxHeartbeats 1600000 in
theorem hides_core (s k : Int) (t v : Nat) (x : Int) (s' k' : Int) (t' v' : Nat) (x' : Int) (w : World) :
    Calls Try.prog 10 #[.agg #[.int .i64 s, .int .i64 k, .int .u64 (t : Int), .int .u64 (v : Int), .int .i64 x], .agg #[.int .i64 s', .int .i64 k', .int .u64 (t' : Int), .int .u64 (v' : Int), .int .i64 x']] w fun e w' => e = .returned (.bool (hidesZ s k v s' k' v')) ∧ Up w w' := by
  have hs : hidesZ s k v s' k' v' = decide (k = 1 ∧ k' = 2 ∧ s = s' ∧ v' ≤ v) := rfl
  have HS := Lib.hid hs
  clear hs
  go_enter Try.func10, Try.ntmps10
  go_wp2
  all_goals
    go_ret
    refine ⟨ret_bool ?_, ((Up.refl w).alloc _).alloc _⟩
    rw [HS.out, Bool.eq_iff_iff]
    clear HS
    first | omega | (simp at *; done) | (simp at *; omega)

set_option maxRecDepth 100000 in
set_option maxHeartbeats 1600000 in
theorem rok_core (s k : Int) (t v : Nat) (x : Int) (w : World) :
    Calls Try.prog 13 #[.agg #[.int .i64 s, .int .i64 k, .int .u64 (t : Int), .int .u64 (v : Int), .int .i64 x]] w fun e w' => e = .returned (.bool (okZ s k t v x)) ∧ Up w w' := by
  have hs : okZ s k t v x = decide (0 ≤ s ∧ s ≤ 255 ∧ 1 ≤ v ∧ v ≤ 281474976710656 ∧ (k = 1 ∧ t = 0 ∧ x = 0 ∨ k = 2 ∧ t ≤ 1099511627776)) := rfl
  have HS := Lib.hid hs
  clear hs
  go_enter Try.func13, Try.ntmps13
  go_wp2
  all_goals
    go_ret
    refine ⟨ret_bool ?_, (Up.refl w).alloc _⟩
    rw [HS.out, Bool.eq_iff_iff]
    clear HS
    first | omega | (simp at *; done) | (simp at *; omega)

set_option maxRecDepth 100000 in
set_option maxHeartbeats 1600000 in
theorem rless_core (s k : Int) (t v : Nat) (x : Int) (s' k' : Int) (t' v' : Nat) (x' : Int) (w : World) :
    Calls Try.prog 21 #[.agg #[.int .i64 s, .int .i64 k, .int .u64 (t : Int), .int .u64 (v : Int), .int .i64 x], .agg #[.int .i64 s', .int .i64 k', .int .u64 (t' : Int), .int .u64 (v' : Int), .int .i64 x']] w fun e w' => e = .returned (.bool (lessZ s k t s' k' t')) ∧ Up w w' := by
  have hs : lessZ s k t s' k' t' = decide (s < s' ∨ s = s' ∧ (k < k' ∨ k = k' ∧ t < t')) := rfl
  have HS := Lib.hid hs
  clear hs
  go_enter Try.func21, Try.ntmps21
  go_wp2
  all_goals
    go_ret
    refine ⟨ret_bool ?_, ((Up.refl w).alloc _).alloc _⟩
    rw [HS.out, Bool.eq_iff_iff]
    clear HS
    first | omega | (simp at *; done) | (simp at *; omega)

set_option maxRecDepth 100000 in
set_option maxHeartbeats 1600000 in
theorem rwins_core (s k : Int) (t v : Nat) (x : Int) (s' k' : Int) (t' v' : Nat) (x' : Int) (w : World) :
    Calls Try.prog 23 #[.agg #[.int .i64 s, .int .i64 k, .int .u64 (t : Int), .int .u64 (v : Int), .int .i64 x], .agg #[.int .i64 s', .int .i64 k', .int .u64 (t' : Int), .int .u64 (v' : Int), .int .i64 x']] w fun e w' => e = .returned (.bool (winsZ v x v' x')) ∧ Up w w' := by
  have hs : winsZ v x v' x' = decide (v' < v ∨ v = v' ∧ x' < x) := rfl
  have HS := Lib.hid hs
  clear hs
  go_enter Try.func23, Try.ntmps23
  go_wp2
  all_goals
    go_ret
    refine ⟨ret_bool ?_, ((Up.refl w).alloc _).alloc _⟩
    rw [HS.out, Bool.eq_iff_iff]
    clear HS
    first | omega | (simp at *; done) | (simp at *; omega)

set_option maxRecDepth 100000 in
set_option maxHeartbeats 1600000 in
theorem rhides_core (s k : Int) (t v : Nat) (x : Int) (s' k' : Int) (t' v' : Nat) (x' : Int) (w : World) :
    Calls Try.prog 24 #[.agg #[.int .i64 s, .int .i64 k, .int .u64 (t : Int), .int .u64 (v : Int), .int .i64 x], .agg #[.int .i64 s', .int .i64 k', .int .u64 (t' : Int), .int .u64 (v' : Int), .int .i64 x']] w fun e w' => e = .returned (.bool (hidesZ s k v s' k' v')) ∧ Up w w' := by
  have hs : hidesZ s k v s' k' v' = decide (k = 1 ∧ k' = 2 ∧ s = s' ∧ v' ≤ v) := rfl
  have HS := Lib.hid hs
  clear hs
  go_enter Try.func24, Try.ntmps24
  go_wp2
  all_goals
    go_ret
    refine ⟨ret_bool ?_, ((Up.refl w).alloc _).alloc _⟩
    rw [HS.out, Bool.eq_iff_iff]
    clear HS
    first | omega | (simp at *; done) | (simp at *; omega)

theorem ok_any (i : It) (w : World) : Calls Try.prog 20 #[.agg #[.int .i64 i.s.toInt, .int .i64 i.k.toInt, .int .u64 (i.t.toNat : Int), .int .u64 (i.v.toNat : Int), .int .i64 i.x.toInt]] w fun e w' => e = .returned (.bool (okB i)) ∧ Up w w' := ok_core _ _ _ _ _ w
theorem less_any (i j : It) (w : World) : Calls Try.prog 18 #[.agg #[.int .i64 i.s.toInt, .int .i64 i.k.toInt, .int .u64 (i.t.toNat : Int), .int .u64 (i.v.toNat : Int), .int .i64 i.x.toInt], .agg #[.int .i64 j.s.toInt, .int .i64 j.k.toInt, .int .u64 (j.t.toNat : Int), .int .u64 (j.v.toNat : Int), .int .i64 j.x.toInt]] w fun e w' => e = .returned (.bool (lessB i j)) ∧ Up w w' := less_core _ _ _ _ _ _ _ _ _ _ w
theorem wins_any (i j : It) (w : World) : Calls Try.prog 15 #[.agg #[.int .i64 i.s.toInt, .int .i64 i.k.toInt, .int .u64 (i.t.toNat : Int), .int .u64 (i.v.toNat : Int), .int .i64 i.x.toInt], .agg #[.int .i64 j.s.toInt, .int .i64 j.k.toInt, .int .u64 (j.t.toNat : Int), .int .u64 (j.v.toNat : Int), .int .i64 j.x.toInt]] w fun e w' => e = .returned (.bool (winsB i j)) ∧ Up w w' := wins_core _ _ _ _ _ _ _ _ _ _ w
theorem hides_any (i j : It) (w : World) : Calls Try.prog 10 #[.agg #[.int .i64 i.s.toInt, .int .i64 i.k.toInt, .int .u64 (i.t.toNat : Int), .int .u64 (i.v.toNat : Int), .int .i64 i.x.toInt], .agg #[.int .i64 j.s.toInt, .int .i64 j.k.toInt, .int .u64 (j.t.toNat : Int), .int .u64 (j.v.toNat : Int), .int .i64 j.x.toInt]] w fun e w' => e = .returned (.bool (hidesB i j)) ∧ Up w w' := hides_core _ _ _ _ _ _ _ _ _ _ w
set_option maxRecDepth 100000 in
set_option maxHeartbeats 800000 in
theorem same_any (i j : It) (w : World) : Calls Try.prog 19 #[.agg #[.int .i64 i.s.toInt, .int .i64 i.k.toInt, .int .u64 (i.t.toNat : Int), .int .u64 (i.v.toNat : Int), .int .i64 i.x.toInt], .agg #[.int .i64 j.s.toInt, .int .i64 j.k.toInt, .int .u64 (j.t.toNat : Int), .int .u64 (j.v.toNat : Int), .int .i64 j.x.toInt]] w fun e w' => e = .returned (.bool (sameB i j)) ∧ Up w w' := by
  have hs : sameB i j = (!lessB i j && !lessB j i) := rfl
  have HS := Lib.hid hs
  clear hs
  have h1 := fun w0 => less_any i j w0
  have h2 := fun w0 => less_any j i w0
  have H1 := Lib.hid h1
  have H2 := Lib.hid h2
  clear h1 h2
  generalize lessB i j = a at *
  generalize lessB j i = b at *
  go_enter Try.func19, Try.ntmps19
  go_wp2_with fail
  refine (H1.out _).mono ?_
  rintro e w1 ⟨rfl, hu1⟩
  obtain ⟨i0, i1, i2, i3, i4⟩ := five_cells (((Rd.item w i 24).alloc (by simp) _).stay (by simp) hu1)
  obtain ⟨j0, j1, j2, j3, j4⟩ := five_cells ((Rd.item (w.alloc _) j 24).stay (by simp) hu1)
  rw [World.size_alloc] at j0 j1 j2 j3 j4
  have hu : Up w w1 := (((Up.refl w).alloc _).alloc _).trans hu1
  clear hu1
  cases a
  · go_wp2_with fail
    refine (H2.out _).mono ?_
    rintro e w2 ⟨rfl, hu2⟩
    go_wp2_with fail
    go_ret
    exact ⟨ret_bool (by rw [HS.out]; rfl), hu.trans hu2⟩
  · go_wp2_with fail
    go_ret
    exact ⟨ret_bool (by rw [HS.out]; rfl), hu⟩
theorem rok_any (i : It) (w : World) : Calls Try.prog 13 #[.agg #[.int .i64 i.s.toInt, .int .i64 i.k.toInt, .int .u64 (i.t.toNat : Int), .int .u64 (i.v.toNat : Int), .int .i64 i.x.toInt]] w fun e w' => e = .returned (.bool (okB i)) ∧ Up w w' := rok_core _ _ _ _ _ w
theorem rless_any (i j : It) (w : World) : Calls Try.prog 21 #[.agg #[.int .i64 i.s.toInt, .int .i64 i.k.toInt, .int .u64 (i.t.toNat : Int), .int .u64 (i.v.toNat : Int), .int .i64 i.x.toInt], .agg #[.int .i64 j.s.toInt, .int .i64 j.k.toInt, .int .u64 (j.t.toNat : Int), .int .u64 (j.v.toNat : Int), .int .i64 j.x.toInt]] w fun e w' => e = .returned (.bool (lessB i j)) ∧ Up w w' := rless_core _ _ _ _ _ _ _ _ _ _ w
theorem rwins_any (i j : It) (w : World) : Calls Try.prog 23 #[.agg #[.int .i64 i.s.toInt, .int .i64 i.k.toInt, .int .u64 (i.t.toNat : Int), .int .u64 (i.v.toNat : Int), .int .i64 i.x.toInt], .agg #[.int .i64 j.s.toInt, .int .i64 j.k.toInt, .int .u64 (j.t.toNat : Int), .int .u64 (j.v.toNat : Int), .int .i64 j.x.toInt]] w fun e w' => e = .returned (.bool (winsB i j)) ∧ Up w w' := rwins_core _ _ _ _ _ _ _ _ _ _ w
theorem rhides_any (i j : It) (w : World) : Calls Try.prog 24 #[.agg #[.int .i64 i.s.toInt, .int .i64 i.k.toInt, .int .u64 (i.t.toNat : Int), .int .u64 (i.v.toNat : Int), .int .i64 i.x.toInt], .agg #[.int .i64 j.s.toInt, .int .i64 j.k.toInt, .int .u64 (j.t.toNat : Int), .int .u64 (j.v.toNat : Int), .int .i64 j.x.toInt]] w fun e w' => e = .returned (.bool (hidesB i j)) ∧ Up w w' := rhides_core _ _ _ _ _ _ _ _ _ _ w
set_option maxRecDepth 100000 in
set_option maxHeartbeats 800000 in
theorem rsame_any (i j : It) (w : World) : Calls Try.prog 22 #[.agg #[.int .i64 i.s.toInt, .int .i64 i.k.toInt, .int .u64 (i.t.toNat : Int), .int .u64 (i.v.toNat : Int), .int .i64 i.x.toInt], .agg #[.int .i64 j.s.toInt, .int .i64 j.k.toInt, .int .u64 (j.t.toNat : Int), .int .u64 (j.v.toNat : Int), .int .i64 j.x.toInt]] w fun e w' => e = .returned (.bool (sameB i j)) ∧ Up w w' := by
  have hs : sameB i j = (!lessB i j && !lessB j i) := rfl
  have HS := Lib.hid hs
  clear hs
  have h1 := fun w0 => rless_any i j w0
  have h2 := fun w0 => rless_any j i w0
  have H1 := Lib.hid h1
  have H2 := Lib.hid h2
  clear h1 h2
  generalize lessB i j = a at *
  generalize lessB j i = b at *
  go_enter Try.func22, Try.ntmps22
  go_wp2_with fail
  refine (H1.out _).mono ?_
  rintro e w1 ⟨rfl, hu1⟩
  obtain ⟨i0, i1, i2, i3, i4⟩ := five_cells (((Rd.item w i 24).alloc (by simp) _).stay (by simp) hu1)
  obtain ⟨j0, j1, j2, j3, j4⟩ := five_cells ((Rd.item (w.alloc _) j 24).stay (by simp) hu1)
  rw [World.size_alloc] at j0 j1 j2 j3 j4
  have hu : Up w w1 := (((Up.refl w).alloc _).alloc _).trans hu1
  clear hu1
  cases a
  · go_wp2_with fail
    refine (H2.out _).mono ?_
    rintro e w2 ⟨rfl, hu2⟩
    go_wp2_with fail
    go_ret
    exact ⟨ret_bool (by rw [HS.out]; rfl), hu.trans hu2⟩
  · go_wp2_with fail
    go_ret
    exact ⟨ret_bool (by rw [HS.out]; rfl), hu⟩
end Go.Proofs.Ytpifigalaembdaa
