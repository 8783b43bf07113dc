/-
  Plain laws of messages' bytes; the walk of law20's awake.
-/
import Derived.Test.YtnbdijifhimogaaMsgW6
import Derived.Test.YtnbdijifhimogaaItemLaw
import Derived.Test.YtnbdijifhimogaaFrameLaw
namespace Go.Proofs.Ytnbdijifhimogaa
open Go.RowKit
set_option linter.unusedVariables false
set_option linter.unusedSimpArgs false

theorem blk_up {w w' : World} {g : Nat} {o : Obj} (hu : Up w w') (h : w.heap[g]? = some o) : w'.heap[g]? = some o := (hu.block _ (Array.getElem?_eq_some_iff.1 h).1).trans h
theorem bytesE_msg {k f t : Int} {id n : Nat} {l : List It} (h : msgB k f t id n l = true) : bytesE l = 0 := by
  obtain ⟨-, -, -, -, -, a, -, b⟩ := msgB_facts h
  unfold bytesE
  rw [if_neg (by omega), b]; rfl
theorem readX_self {k f t : Int} {id n : Nat} {l : List It} (h : msgB k f t id n l = true) : readX k.toNat f.toNat t.toNat (numB id ++ numB n ++ itemsB l) = (0, k.toNat, f.toNat, t.toNat, id, n, l) := by
  obtain ⟨⟨a1, a2⟩, ⟨a3, a4⟩, ⟨a5, a6⟩, a7, a8, a9, a10, a11⟩ := msgB_facts h
  have ht : takesL 2 [] (numB id ++ numB n ++ itemsB l) = (0, [id, n], itemsB l) := by
    rw [List.append_assoc, takesL_ok (by omega), takesL_ok (by omega)]; rfl
  have hq : readL (itemsB l) = (0, l) := by
    have h1 := readL_row [] (bytesE_msg h)
    rw [List.append_nil] at h1
    rw [h1]; rfl
  have e1 : ((k.toNat : Nat) : Int) = k := by omega
  have e2 : ((f.toNat : Nat) : Int) = f := by omega
  have e3 : ((t.toNat : Nat) : Int) = t := by omega
  unfold readX
  simp only [ht, hq, List.getD_cons_zero, List.getD_cons_succ, e1, e2, e3]
  rw [if_neg (by simp), if_neg (by simp [h])]
theorem readN_self {k f t : Int} {id n : Nat} {l : List It} (h : msgB k f t id n l = true) : readN (msgD k f t id n l) = (0, k.toNat, f.toNat, t.toNat, id, n, l) := by
  obtain ⟨⟨a1, a2⟩, ⟨a3, a4⟩, ⟨a5, a6⟩, a7, a8, a9, a10, a11⟩ := msgB_facts h
  have b1 := byteOf_val (z := k) (by omega) (by omega)
  have b2 := byteOf_val (z := f) (by omega) (by omega)
  have b3 := byteOf_val (z := t) (by omega) (by omega)
  have d0 : msgD k f t id n l = byteOf k :: byteOf f :: byteOf t :: (numB id ++ numB n ++ itemsB l) := by simp [msgD, msgH]
  have e0 : (msgD k f t id n l).getD 0 0 = byteOf k := by rw [d0]; rfl
  have e1 : (msgD k f t id n l).getD 1 0 = byteOf f := by rw [d0]; rfl
  have e2 : (msgD k f t id n l).getD 2 0 = byteOf t := by rw [d0]; rfl
  have e3 : (msgD k f t id n l).drop 3 = numB id ++ numB n ++ itemsB l := by rw [d0]; rfl
  unfold readN
  rw [e0, e1, e2, e3, show (byteOf k).toNat = k.toNat by omega, show (byteOf f).toNat = f.toNat by omega, show (byteOf t).toNat = t.toNat by omega]
  exact readX_self h
theorem takeF_own (kd : Nat) (l rest : List UInt8) (hk1 : 1 ≤ kd) (hk2 : kd ≤ 100) (hl : l.length ≤ 60000) : takeF (frameB (kd : Int) l ++ rest) 0 = (0, kd, l, ((l.length + 12 : Nat) : Int)) := by
  have h := takeF_frame [] kd l rest hk1 hk2 hl
  simpa using h
theorem msgD_ge (k f t : Int) (id n : Nat) (l : List It) : 3 ≤ (msgD k f t id n l).length := by
  simp only [msgD, msgH, List.length_append, List.length_cons, List.length_nil]; omega
/-- a message's bytes are read as it was -/
theorem readM_self {k f t : Int} {id n : Nat} {l : List It} (h : msgB k f t id n l = true) : readM (frameB 9 (msgD k f t id n l)) = (0, k.toNat, f.toNat, t.toNat, id, n, l) := by
  have hl := msgD_le h
  have hg := msgD_ge k f t id n l
  have ht := takeF_own 9 (msgD k f t id n l) [] (by omega) (by omega) (by omega)
  rw [List.append_nil] at ht
  have hlen := frameB_len 9 (msgD k f t id n l)
  have ht2 : takeF (frameB 9 (msgD k f t id n l)) 0 = (0, 9, msgD k f t id n l, (((msgD k f t id n l).length + 12 : Nat) : Int)) := ht
  unfold readM
  simp only [ht2]
  rw [if_neg (by simp), if_neg (by rintro (a | a | a); exact a rfl; exact a (by omega); omega)]
  exact readN_self h
theorem readM_selfN {k f t : Nat} {id n : Nat} {l : List It} (h : msgB (k : Int) (f : Int) (t : Int) id n l = true) : readM (frameB 9 (msgD (k : Int) (f : Int) (t : Int) id n l)) = (0, k, f, t, id, n, l) := by
  rw [readM_self h, Int.toNat_natCast, Int.toNat_natCast, Int.toNat_natCast]
theorem same_selfM (k f t : Int) (id n : Nat) (l : List It) : sameM k f t id n l k f t id n l = true := by unfold sameM; simp
/-- with bytes behind they are none -/
theorem readM_more {k f t : Int} {id n : Nat} {l : List It} (h : msgB k f t id n l = true) {r : List UInt8} (hr : r ≠ []) : readM (frameB 9 (msgD k f t id n l) ++ r) = (3, mt0) := by
  have hl := msgD_le h
  have hlen := frameB_len 9 (msgD k f t id n l)
  have ht2 : takeF (frameB 9 (msgD k f t id n l) ++ r) 0 = (0, 9, msgD k f t id n l, (((msgD k f t id n l).length + 12 : Nat) : Int)) := takeF_own 9 (msgD k f t id n l) r (by omega) (by omega) (by omega)
  have hrl : 0 < r.length := List.length_pos_iff.2 hr
  unfold readM
  simp only [ht2]
  rw [if_neg (by simp), if_pos (.inr (.inl (by rw [List.length_append]; omega)))]
set_option maxRecDepth 100000 in
set_option maxHeartbeats 4000000 in
theorem awake20_any (w : World) : Calls Try.prog 11 #[] w fun e w' => e = .returned (.bool true) ∧ Up w w' := by
  have hm : msgB 2 1 2 3 0 [] = true := by decide
  have hme : mputE 2 1 2 3 0 [] = 0 := by unfold mputE; rw [hm]; rfl
  have hml : mputL [] 2 1 2 3 0 [] = frameB 9 (msgD 2 1 2 3 0 []) := by unfold mputL; rw [hm]; rfl
  have hrm : readM (frameB 9 (msgD 2 1 2 3 0 [])) = (0, 2, 1, 2, 3, 0, []) := readM_self hm
  have hdl : (msgD 2 1 2 3 0 []).length = 6 := by
    have e3 : (numB 3).length = 1 := by unfold numB; rfl
    have e0 : (numB 0).length = 1 := by unfold numB; rfl
    simp only [msgD, msgH, itemsB, List.length_append, List.length_cons, List.length_nil, List.flatMap_nil, e3, e0]
  have hfl : (frameB 9 (msgD 2 1 2 3 0 [])).length = 18 := by rw [frameB_len, hdl]
  have hsm : sameM 2 1 2 3 0 [] 2 1 2 3 0 [] = true := by unfold sameM; simp
  have hm0 : msgB 0 0 0 0 0 [] = false := by decide
  have HME := Lib.hid hme
  have HML := Lib.hid hml
  have HRM := Lib.hid hrm
  have HFL := Lib.hid hfl
  have HSM := Lib.hid hsm
  have HM0 := Lib.hid hm0
  clear hm hme hml hrm hdl hfl hsm hm0
  go_enter Try.func11, Try.ntmps11
  go_wp2_with fail
  have hu1 : Up w (w.alloc (.cells #[.int .i64 2, .int .i64 1, .int .i64 2, .int .u64 3, .int .u64 0, .slice none 0 0] 25)) := (Up.refl w).alloc _
  have hb1 : (w.alloc (.cells #[.int .i64 2, .int .i64 1, .int .i64 2, .int .u64 3, .int .u64 0, .slice none 0 0] 25)).heap[w.heap.size]? = some (.cells #[.int .i64 2, .int .i64 1, .int .i64 2, .int .u64 3, .int .u64 0, .slice none 0 0] 25 (0, 0)) := heap_alloc_new w _
  generalize w.alloc (.cells #[.int .i64 2, .int .i64 1, .int .i64 2, .int .u64 3, .int .u64 0, .slice none 0 0] 25) = w1 at *
  generalize w.heap.size = g1 at hb1 ⊢
  refine (mput_any none 0 0 [] 2 1 2 3 0 none 0 0 [] w1 Rd.empty (by omega) Rd.empty (by omega)).mono ?_
  rintro e w2 ⟨A, n, c, rfl, ho, hu2⟩
  rw [HME.out]
  rw [HML.out] at ho
  have hn : n = 18 := by have := ho.rd.blen; rw [HFL.out] at this; exact this
  subst hn
  have hc := own_cap ho
  go_wp2_with fail
  refine (mread_any A 18 c _ w2 ho.rd (by omega) hc).mono ?_
  rintro e w3 ⟨B, bn, bc, rfl, hB, hbc, hu3⟩
  rw [HRM.out] at hB ⊢
  (try dsimp only at hB ⊢)
  have hb3 := ((hu2.trans hu3).block _ (Array.getElem?_eq_some_iff.1 hb1).1).trans hb1
  have hub : Up w3 (w3.alloc (.cells #[.int .i64 2, .int .i64 1, .int .i64 2, .int .u64 3, .int .u64 0, .slice B bn bc] 25)) := (Up.refl w3).alloc _
  have hb4 := (hub.block _ (Array.getElem?_eq_some_iff.1 hb3).1).trans hb3
  have hb5 : (w3.alloc (.cells #[.int .i64 2, .int .i64 1, .int .i64 2, .int .u64 3, .int .u64 0, .slice B bn bc] 25)).heap[w3.heap.size]? = some (.cells #[.int .i64 2, .int .i64 1, .int .i64 2, .int .u64 3, .int .u64 0, .slice B bn bc] 25 (0, 0)) := heap_alloc_new w3 _
  have hbn : bn = 0 := hB.ilen
  have hB4 := hB.up hub
  have hup4 := ((hu1.trans hu2).trans hu3).trans hub
  have p0 := blk_cell hb4 0
  have p1 := blk_cell hb4 1
  have p2 := blk_cell hb4 2
  have p3 := blk_cell hb4 3
  have p4 := blk_cell hb4 4
  have p5 := blk_cell hb4 5
  have t0 := blk_cell hb5 0
  have t1 := blk_cell hb5 1
  have t2 := blk_cell hb5 2
  have t3 := blk_cell hb5 3
  have t4 := blk_cell hb5 4
  have t5 := blk_cell hb5 5
  have HBN := Lib.hid hbn
  clear hbn hb1 hb3 hb4 hb5 hu1 hu2 hu3 hB hub ho
  go_wp2_with fail
  clear p0 p1 p2 p3 p4 p5 t0 t1 t2 t3 t4 t5
  generalize w3.alloc (.cells #[.int .i64 2, .int .i64 1, .int .i64 2, .int .u64 3, .int .u64 0, .slice B bn bc] 25) = w4 at *
  refine (msame_any 2 1 2 3 0 B bn bc [] 2 1 2 3 0 none 0 0 [] w4 hB4 Rd.empty (by have := HBN.out; omega) (by omega)).mono ?_
  rintro e w5 ⟨rfl, hu5⟩
  rw [HSM.out]
  go_wp2_with fail
  refine (mok_any 0 0 0 0 0 none 0 0 [] w5 Rd.empty (by omega)).mono ?_
  rintro e w6 ⟨rfl, hu6⟩
  rw [HM0.out]
  go_wp2_with fail
  go_ret
  exact ⟨rfl, (hup4.trans hu5).trans hu6⟩
end Go.Proofs.Ytnbdijifhimogaa
