/-
  The walk of the document's Msg.
-/
import Derived.Test.YtnbdijifhimogaaMsgW4
import Derived.Test.YtnbdijifhimogaaItemW9
import Derived.Test.YtnbdijifhimogaaFrameW8
namespace Go.Proofs.Ytnbdijifhimogaa
open Go.RowKit
set_option linter.unusedVariables false
set_option linter.unusedSimpArgs false

set_option maxRecDepth 100000 in
set_option maxHeartbeats 4000000 in
theorem rmsg_any (k f t : Int) (id n : Nat) (A : Option Addr) (an ac : Nat) (l : List It) (w : World) (ha : Rd w w.heap.size 5 A an (itcs l)) (hm : msgB k f t id n l = true) :
    Calls Try.prog 15 #[.agg #[.int .i64 k, .int .i64 f, .int .i64 t, .int .u64 (id : Int), .int .u64 (n : Int), .slice A an ac]] w
      fun e w' => e = .returned (.string (tx (frameB 9 (msgD k f t id n l)))) ∧ Up w w' := by
  obtain ⟨w2, hw2⟩ : ∃ w1, w1 = w.alloc (.cells #[.int .i64 k, .int .i64 f, .int .i64 t, .int .u64 (id : Int), .int .u64 (n : Int), .slice A an ac] 25) := ⟨_, rfl⟩
  have hup2 : Up w w2 := by rw [hw2]; exact (Up.refl w).alloc _
  have hb2 : w2.heap[w.heap.size]? = some (.cells #[.int .i64 k, .int .i64 f, .int .i64 t, .int .u64 (id : Int), .int .u64 (n : Int), .slice A an ac] 25 (0, 0)) := by rw [hw2]; exact heap_alloc_new w _
  have ha2 := ha.up hup2
  have HW := Lib.hid hw2
  have hMl := msgD_le hm
  obtain ⟨⟨m1, m2⟩, ⟨m3, m4⟩, ⟨m5, m6⟩, m7, m8, m9, -, m11⟩ := msgB_facts hm
  have hal := ha.ilen
  have han : an ≤ 1500 := by omega
  have z1 : k % 256 = k := by omega
  have z2 : f % 256 = f := by omega
  have z3 : t % 256 = t := by omega
  have hbv : ([.int .u8 k, .int .u8 f, .int .u8 t] : List Value) = bvs (msgH k f t) := by
    simp only [bvs, msgH, List.map_cons, List.map_nil, bv_byteOf, z1, z2, z3]
  have HBV := Lib.hid hbv
  have y1 : IntKind.u8.wrap k = k := by rw [IntKind.wrap_u8]; omega
  have y2 : IntKind.u8.wrap f = f := by rw [IntKind.wrap_u8]; omega
  have y3 : IntKind.u8.wrap t = t := by rw [IntKind.wrap_u8]; omega
  have h9 : frameB 9 (msgD k f t id n l) = frameB 9 (cc (cc (cc (msgH k f t) (numB id)) (numB n)) (itemsB l)) := rfl
  have hMl9 : (cc (cc (cc (msgH k f t) (numB id)) (numB n)) (itemsB l)).length ≤ 60000 := Nat.le_trans (show (msgD k f t id n l).length ≤ 50000 from hMl) (by omega)
  have H9 := Lib.hid h9
  have HM9 := Lib.hid hMl9
  have hh3 : (msgH k f t).length = 3 := rfl
  have hi5 := itemsB_le l m9
  have n1 := numB_ten (n := id) (by omega)
  have n2 := numB_ten (n := n) (by omega)
  clear hw2 hm z1 z2 z3 hbv m11 m9 hal hMl h9 hMl9 ha
  have hS : ∀ W, Up w2 W → Up w2 W ∧ W.cell? ⟨w.heap.size, 0, none⟩ = some (.int .i64 k) ∧ W.cell? ⟨w.heap.size, 1, none⟩ = some (.int .i64 f) ∧ W.cell? ⟨w.heap.size, 2, none⟩ = some (.int .i64 t) ∧ W.cell? ⟨w.heap.size, 3, none⟩ = some (.int .u64 (id : Int)) ∧ W.cell? ⟨w.heap.size, 4, none⟩ = some (.int .u64 (n : Int)) ∧ W.cell? ⟨w.heap.size, 5, none⟩ = some (.slice A an ac) := fun W h => by
    have h9 := (h.block _ (Array.getElem?_eq_some_iff.1 hb2).1).trans hb2
    exact ⟨h, blk_cell h9 0, blk_cell h9 1, blk_cell h9 2, blk_cell h9 3, blk_cell h9 4, blk_cell h9 5⟩
  go_enter Try.func15, Try.ntmps15
  go_wp2_with fail
  rw [← HW.out]
  clear HW
  generalize w.heap.size = ge at hb2 hS ⊢
  apply Rg.region_up _ (by kernel_rfl) (by kernel_rfl) hS
  · intro QN hQN
    iterate 9 (apply Rg.RK.ok; (· intro vs w1 hS; go_simp; with_reducible rfl); (· rfl); simp only [Act.put, List.setIfInBounds_toArray, List.set_cons_zero, List.set_cons_succ, Nat.reduceAdd])
    apply Rg.RK.opn (Sl 1 (bvs (msgH k f t))) Rg.ob [] []
    · exact fun v W1 W2 h hs => h.sta hs
    · rfl
    · intro vs w3 hK hS _ K hKK
      go_simp
      have ho := row_new w3 #[.int .u8 k, .int .u8 f, .int .u8 t] 5 (base := w3.heap.size) (sz := 1) (n := 3) (Nat.le_refl _) rfl (by omega)
      have e3 : (#[.int .u8 k, .int .u8 f, .int .u8 t] : Array Value).toList = bvs (msgH k f t) := HBV.out
      rw [e3] at ho
      exact hKK.out _ _ (Sl.own ho) (Rg.Keeps.of_up ((Up.refl _).alloc _)) (by rintro g rfl; exact ⟨by simp, .inl (Nat.le_refl _)⟩)
    simp only [Act.put, List.setIfInBounds_toArray, List.set_cons_zero, List.set_cons_succ, Nat.reduceAdd]
    apply Rg.RK.okU [9] (v := .string (tx (msgH k f t)))
    · intro vs w1 hS hf
      obtain ⟨⟨A1, n1, c1, hv, -, hrd⟩, -⟩ := hf
      exact exec_str rfl hv hrd
    · rfl
    simp only [Act.put, List.setIfInBounds_toArray, List.set_cons_zero, List.set_cons_succ, Nat.reduceAdd]
    iterate 2 (apply Rg.RK.ok; (· intro vs w1 hS; go_simp; with_reducible rfl); (· rfl); simp only [Act.put, List.setIfInBounds_toArray, List.set_cons_zero, List.set_cons_succ, Nat.reduceAdd])
    apply Rg.RK.call (.string (tx (numB id))) []
    · rfl
    · intro vs w1 hK hS _ K hKK
      go_simp
      refine (rnum_any _ _ (by omega)).mono ?_
      rintro e w2 ⟨s1, rfl, hs1, hu1⟩
      rw [tx_of hs1.out]
      exact hKK.out _ hu1
    simp only [Act.put, List.setIfInBounds_toArray, List.set_cons_zero, List.set_cons_succ, Nat.reduceAdd]
    (apply Rg.RK.ok; (· intro vs w1 hS; go_simp; rw [if_neg (by simp [tx_size, cc_length]; omega), tx_append]); (· rfl); simp only [Act.put, List.setIfInBounds_toArray, List.set_cons_zero, List.set_cons_succ, Nat.reduceAdd])
    iterate 2 (apply Rg.RK.ok; (· intro vs w1 hS; go_simp; with_reducible rfl); (· rfl); simp only [Act.put, List.setIfInBounds_toArray, List.set_cons_zero, List.set_cons_succ, Nat.reduceAdd])
    apply Rg.RK.call (.string (tx (numB n))) []
    · rfl
    · intro vs w1 hK hS _ K hKK
      go_simp
      refine (rnum_any _ _ (by omega)).mono ?_
      rintro e w2 ⟨s1, rfl, hs1, hu1⟩
      rw [tx_of hs1.out]
      exact hKK.out _ hu1
    simp only [Act.put, List.setIfInBounds_toArray, List.set_cons_zero, List.set_cons_succ, Nat.reduceAdd]
    (apply Rg.RK.ok; (· intro vs w1 hS; go_simp; rw [if_neg (by simp [tx_size, cc_length]; omega), tx_append]); (· rfl); simp only [Act.put, List.setIfInBounds_toArray, List.set_cons_zero, List.set_cons_succ, Nat.reduceAdd])
    iterate 2 (apply Rg.RK.ok; (· intro vs w1 hS; go_simp; with_reducible rfl); (· rfl); simp only [Act.put, List.setIfInBounds_toArray, List.set_cons_zero, List.set_cons_succ, Nat.reduceAdd])
    apply Rg.RK.call (.string (tx (itemsB l))) []
    · rfl
    · intro vs w1 hK hS _ K hKK
      go_simp
      refine (rbytes_any A an ac l w1 (ha2.up hS.1) (by omega)).mono ?_
      rintro e w2 ⟨s1, rfl, hs1, hu1⟩
      rw [tx_of hs1.out]
      exact hKK.out _ hu1
    simp only [Act.put, List.setIfInBounds_toArray, List.set_cons_zero, List.set_cons_succ, Nat.reduceAdd]
    (apply Rg.RK.ok; (· intro vs w1 hS; go_simp; rw [if_neg (by simp [tx_size, cc_length]; omega), tx_append]); (· rfl); simp only [Act.put, List.setIfInBounds_toArray, List.set_cons_zero, List.set_cons_succ, Nat.reduceAdd])
    apply Rg.RK.call (.string (tx (frameB 9 (cc (cc (cc (msgH k f t) (numB id)) (numB n)) (itemsB l))))) []
    · rfl
    · intro vs w1 hK hS _ K hKK
      go_simp
      refine (rframe_any 9 _ _ (by omega) HM9.out).mono ?_
      rintro e w2 ⟨rfl, hu2⟩
      exact hKK.out _ hu2
    simp only [Act.put, List.setIfInBounds_toArray, List.set_cons_zero, List.set_cons_succ, Nat.reduceAdd]
    iterate 1 (apply Rg.RK.ok; (· intro vs w1 hS; go_simp; with_reducible rfl); (· rfl); simp only [Act.put, List.setIfInBounds_toArray, List.set_cons_zero, List.set_cons_succ, Nat.reduceAdd])
    apply Rg.RK.fin []
    intro vs w1 hK hS _
    refine hQN.out _ _ ?_
    clear hQN
    have hu8 := keeps_up hK
    clear hS hK y1 y2 y3
    go_wp2_with fail
    go_ret
    rw [H9.out]
    exact ⟨rfl, hup2.trans hu8⟩
  · kernel_rfl
end Go.Proofs.Ytnbdijifhimogaa
