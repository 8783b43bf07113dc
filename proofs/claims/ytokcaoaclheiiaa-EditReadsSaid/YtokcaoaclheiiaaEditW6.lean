/-
  The walk of the laws' own test of layer 15.
-/
import Derived.Test.YtokcaoaclheiiaaEditW5
namespace Go.Proofs.Ytokcaoaclheiiaa
open Go.RowKit
set_option linter.unusedVariables false
set_option linter.unusedSimpArgs false

set_option maxRecDepth 100000 in
set_option maxHeartbeats 1600000 in
theorem awake15_any (w : World) : Calls Try.prog 11 #[] w fun e w' => e = .returned (.bool true) ∧ Up w w' := by
  have ha1 : applyR 0 [] 0 0 0 0 [] [(0, 2)] 1 0 0 0 0 = some (1, [(0, 2)], 0, 0, 0, 0) := by decide
  have ha2 : applyR 1 [(0, 2)] 0 0 0 0 [2] [] 0 0 0 0 0 = some (1, [], 0, 0, 0, 0) := by decide
  have ha3 : viewOk 1 [] 0 0 0 0 = true := by decide
  have HA1 := Lib.hid ha1
  have HA2 := Lib.hid ha2
  have HA3 := Lib.hid ha3
  clear ha1 ha2 ha3
  have hr1 : Rd (w.alloc (.cells #[.int .i64 0, .int .i64 2] 41)) (w.alloc (.cells #[.int .i64 0, .int .i64 2] 41)).heap.size 2 (some ⟨w.heap.size, 0, none⟩) 1 (fvs [(0, 2)]) := Rd.made w #[.int .i64 0, .int .i64 2] 41 rfl
  have hu1 : Up w (w.alloc (.cells #[.int .i64 0, .int .i64 2] 41)) := (Up.refl w).alloc _
  go_enter Try.func11, Try.ntmps11
  go_wp2_with fail
  generalize w.alloc (.cells #[.int .i64 0, .int .i64 2] 41) = w1 at *
  refine (apply_any 0 none 0 0 [] 0 0 0 0 none 0 0 [] (some ⟨w.heap.size, 0, none⟩) 1 1 [(0, 2)] 1 0 0 0 0 w1 Rd.empty (by omega) Rd.empty (by omega) hr1 (by omega)).mono ?_
  intro e w2 hp
  rw [HA1.out] at hp
  obtain ⟨R, rn, rfl, hrd2, hu2, -⟩ := hp
  have hrn : rn = 1 := by have := hrd2.flen; simpa using this
  subst hrn
  simp only [Int.natCast_zero, Int.ofNat_zero]
  have hb3 : (w2.alloc (.cells #[.int .i64 1, .slice R 1 1, .int .u64 0, .int .u64 0, .int .u64 0, .int .u64 0] 27)).heap[w2.heap.size]? = some (.cells #[.int .i64 1, .slice R 1 1, .int .u64 0, .int .u64 0, .int .u64 0, .int .u64 0] 27 (0, 0)) := heap_alloc_new _ _
  have hr3 := Rd.made (w2.alloc (.cells #[.int .i64 1, .slice R 1 1, .int .u64 0, .int .u64 0, .int .u64 0, .int .u64 0] 27)) (sz := 1) (n := 1) #[.int .i64 2] 3 rfl
  rw [World.size_alloc w2] at hr3
  have hu3 : Up w2 ((w2.alloc (.cells #[.int .i64 1, .slice R 1 1, .int .u64 0, .int .u64 0, .int .u64 0, .int .u64 0] 27)).alloc (.cells #[.int .i64 2] 3)) := ((Up.refl w2).alloc _).alloc _
  have hb4 := (((Up.refl (w2.alloc (.cells #[.int .i64 1, .slice R 1 1, .int .u64 0, .int .u64 0, .int .u64 0, .int .u64 0] 27))).alloc (.cells #[.int .i64 2] 3)).block _ (Array.getElem?_eq_some_iff.1 hb3).1).trans hb3
  go_wp2_with fail
  clear hb3
  generalize (w2.alloc (.cells #[.int .i64 1, .slice R 1 1, .int .u64 0, .int .u64 0, .int .u64 0, .int .u64 0] 27)).alloc (.cells #[.int .i64 2] 3) = w3 at *
  refine (apply_any 1 R 1 1 [(0, 2)] 0 0 0 0 (some ⟨w2.heap.size + 1, 0, none⟩) 1 1 [2] none 0 0 [] 0 0 0 0 0 w3 (hrd2.up hu3) (by omega) hr3 (by omega) Rd.empty (by omega)).mono ?_
  intro e w4 hp
  rw [HA2.out] at hp
  obtain ⟨R4, rn4, rfl, hrd4, hu4, -⟩ := hp
  have hrn : rn4 = 0 := by have := hrd4.flen; simpa using this
  subst hrn
  simp only [Int.natCast_zero, Int.ofNat_zero]
  have hb5 := (hu4.block _ (Array.getElem?_eq_some_iff.1 hb4).1).trans hb4
  generalize w2.heap.size = g1 at *
  have hb6 : (w4.alloc (.cells #[.int .i64 1, .slice R4 0 0, .int .u64 0, .int .u64 0, .int .u64 0, .int .u64 0] 27)).heap[w4.heap.size]? = some (.cells #[.int .i64 1, .slice R4 0 0, .int .u64 0, .int .u64 0, .int .u64 0, .int .u64 0] 27 (0, 0)) := heap_alloc_new _ _
  have hu5 : Up w4 (w4.alloc (.cells #[.int .i64 1, .slice R4 0 0, .int .u64 0, .int .u64 0, .int .u64 0, .int .u64 0] 27)) := (Up.refl w4).alloc _
  have hb7 := (hu5.block _ (Array.getElem?_eq_some_iff.1 hb5).1).trans hb5
  have q1 := blk_cell hb7 1
  have p0 := blk_cell hb6 0
  have p1 := blk_cell hb6 1
  have p2 := blk_cell hb6 2
  have p3 := blk_cell hb6 3
  have p4 := blk_cell hb6 4
  have p5 := blk_cell hb6 5
  go_wp2_with fail
  clear q1 p0 p1 p2 p3 p4 p5
  refine (vok_any 1 R4 0 0 [] 0 0 0 0 _ (hrd4.up hu5) (by omega) (by omega)).mono ?_
  rintro e w6 ⟨rfl, hu6⟩
  rw [HA3.out]
  go_wp2_with fail
  go_ret
  exact ⟨rfl, (((hu1.trans hu2).trans hu3).trans hu4).trans (hu5.trans hu6)⟩
end Go.Proofs.Ytokcaoaclheiiaa
