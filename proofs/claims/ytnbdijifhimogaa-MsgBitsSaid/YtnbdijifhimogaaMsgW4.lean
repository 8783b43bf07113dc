/-
  The walk of msg.Put.
-/
import Derived.Test.YtnbdijifhimogaaMsgW3
import Derived.Test.YtnbdijifhimogaaItemW3
import Derived.Test.YtnbdijifhimogaaFrameW5
namespace Go.Proofs.Ytnbdijifhimogaa
open Go.RowKit
set_option linter.unusedVariables false
set_option linter.unusedSimpArgs false

/-- a message's bytes within its frame -/
def msgH (k f t : Int) : List UInt8 := [byteOf k, byteOf f, byteOf t]
def msgD (k f t : Int) (id n : Nat) (l : List It) : List UInt8 := msgH k f t ++ numB id ++ numB n ++ itemsB l
def mputE (k f t : Int) (id n : Nat) (l : List It) : Nat := if msgB k f t id n l = true then 0 else 1
def mputL (bs : List UInt8) (k f t : Int) (id n : Nat) (l : List It) : List UInt8 := if msgB k f t id n l = true then bs ++ frameB 9 (msgD k f t id n l) else []
theorem itemsB_le (l : List It) (h : l.length ≤ 1500) : (itemsB l).length ≤ 48010 := by
  have h1 := numB_ten (n := l.length) (by omega)
  have h2 : ∀ q : List It, (q.flatMap itB).length ≤ 32 * q.length := fun q => by
    induction q with
    | nil => simp
    | cons i q ih => have := itB_len i; simp only [List.flatMap_cons, List.length_append, List.length_cons]; omega
  have h3 := h2 l
  unfold itemsB
  rw [List.length_append]
  omega
theorem msgB_facts {k f t : Int} {id n : Nat} {l : List It} (h : msgB k f t id n l = true) : (1 ≤ k ∧ k ≤ 10) ∧ (0 ≤ f ∧ f < 7) ∧ (0 ≤ t ∧ t < 7) ∧ id ≤ 1099511627776 ∧ n ≤ 281474976710656 ∧ l.length ≤ 1500 ∧ (l.length = 0 ∨ withB k = true) ∧ l.all okB = true := by
  unfold msgB at h
  rw [Bool.and_eq_true, decide_eq_true_eq] at h
  obtain ⟨⟨a1, a2, a3, a4, a5, a6, a7, a8⟩, a9⟩ := h
  exact ⟨⟨a1, a2⟩, a3, a4, a5, a6, a7, a8, a9⟩
theorem msgD_le {k f t : Int} {id n : Nat} {l : List It} (h : msgB k f t id n l = true) : (msgD k f t id n l).length ≤ 50000 := by
  obtain ⟨-, -, -, h1, h2, h3, -, -⟩ := msgB_facts h
  have a1 := numB_ten (n := id) (by omega)
  have a2 := numB_ten (n := n) (by omega)
  have a3 := itemsB_le l h3
  simp only [msgD, msgH, List.length_append, List.length_cons, List.length_nil]
  omega
set_option maxRecDepth 100000 in
set_option maxHeartbeats 4000000 in
theorem mput_any (B : Option Addr) (bn bc : Nat) (bs : List UInt8) (k f t : Int) (id n : Nat) (A : Option Addr) (an ac : Nat) (l : List It) (w : World) (hb0 : Rd w w.heap.size 1 B bn (bvs bs)) (hbn : bn ≤ 549755813888)
    (ha : Rd w w.heap.size 5 A an (itcs l)) (han : an ≤ 9223372036854775807) :
    Calls Try.prog 8 #[.slice B bn bc, .agg #[.int .i64 k, .int .i64 f, .int .i64 t, .int .u64 (id : Int), .int .u64 (n : Int), .slice A an ac]] w
      fun e w' => ∃ A' n' c', e = .returned (.tuple #[.slice A' n' c', .int .i64 (mputE k f t id n l : Int)]) ∧ OwnB w' w.heap.size A' n' c' (mputL bs k f t id n l) ∧ Up w w' := by
  have nil0 : ∀ w0, OwnB w0 w.heap.size none 0 0 [] := fun w0 => World.ownsRow_nil _ _ _ _
  have NIL := Lib.hid nil0
  clear nil0
  obtain ⟨w1, hw1⟩ : ∃ w1, w1 = w.alloc (.cells #[.int .i64 k, .int .i64 f, .int .i64 t, .int .u64 (id : Int), .int .u64 (n : Int), .slice A an ac] 25) := ⟨_, rfl⟩
  have hup1 : Up w w1 := by rw [hw1]; exact (Up.refl w).alloc _
  have hb1 : w1.heap[w.heap.size]? = some (.cells #[.int .i64 k, .int .i64 f, .int .i64 t, .int .u64 (id : Int), .int .u64 (n : Int), .slice A an ac] 25 (0, 0)) := by rw [hw1]; exact heap_alloc_new w _
  have ha1 := ha.up hup1
  have hB1 := hb0.up hup1
  have HW := Lib.hid hw1
  clear hw1 ha hb0
  obtain ⟨mb, hmb⟩ : ∃ x, x = msgB k f t id n l := ⟨_, rfl⟩
  have HM := Lib.hid hmb
  clear hmb
  have hsz := hup1.size
  go_enter Try.func8, Try.ntmps8
  go_wp2_with fail
  rw [← HW.out]
  clear HW
  have q0 := blk_cell hb1 0
  have q1 := blk_cell hb1 1
  have q2 := blk_cell hb1 2
  have q3 := blk_cell hb1 3
  have q4 := blk_cell hb1 4
  have q5 := blk_cell hb1 5
  generalize w.heap.size = ge at hb1 q0 q1 q2 q3 q4 q5 ⊢
  go_wp2_with fail
  clear q0 q1 q2 q3 q4 q5
  refine (mok_any k f t id n A an ac l w1 ha1 han).mono ?_
  rintro e w2 ⟨rfl, hu2⟩
  rw [← HM.out]
  cases mb
  · have hE : mputE k f t id n l = 1 := by unfold mputE; rw [← HM.out]; rfl
    have hL : mputL bs k f t id n l = [] := by unfold mputL; rw [← HM.out]; rfl
    have HE := Lib.hid hE
    have HL := Lib.hid hL
    clear hE hL
    go_wp2_with fail
    go_ret2
    rw [HE.out, HL.out]
    exact ⟨none, 0, 0, rfl, NIL.out _, hup1.trans hu2⟩
  · have hE : mputE k f t id n l = 0 := by unfold mputE; rw [← HM.out]; rfl
    have hL : mputL bs k f t id n l = bs ++ frameB 9 (msgD k f t id n l) := by unfold mputL; rw [← HM.out]; rfl
    have hMl := msgD_le HM.out.symm
    obtain ⟨⟨m1, m2⟩, ⟨m3, m4⟩, ⟨m5, m6⟩, m7, m8, m9, -, m11⟩ := msgB_facts HM.out.symm
    have hBE : bytesE l = 0 := by unfold bytesE; rw [if_neg (by omega), m11]; rfl
    have hPE : putE 9 (msgD k f t id n l).length = 0 := by unfold putE; rw [if_neg (by omega), if_neg (by omega)]
    have hPL : putL bs 9 (msgD k f t id n l) = bs ++ frameB 9 (msgD k f t id n l) := by unfold putL; rw [hPE]; rfl
    have HE := Lib.hid hE
    have HL := Lib.hid hL
    have HBE := Lib.hid hBE
    have HPE := Lib.hid hPE
    have HPL := Lib.hid hPL
    have HML := Lib.hid hMl
    have z1 : k % 256 = k := by omega
    have z2 : f % 256 = f := by omega
    have z3 : t % 256 = t := by omega
    have hbv : ([.int .u8 k, .int .u8 f, .int .u8 t] : List Value) = bvs (msgH k f t) := by
      simp only [bvs, msgH, List.map_cons, List.map_nil, bv_byteOf, z1, z2, z3]
    have HBV := Lib.hid hbv
    have y1 : IntKind.u8.wrap k = k := by rw [IntKind.wrap_u8]; omega
    have y2 : IntKind.u8.wrap f = f := by rw [IntKind.wrap_u8]; omega
    have y3 : IntKind.u8.wrap t = t := by rw [IntKind.wrap_u8]; omega
    clear z1 z2 z3
    have n1 := numB_ten (n := id) (by omega)
    have n2 := numB_ten (n := n) (by omega)
    have hb2 := (hu2.block _ (Array.getElem?_eq_some_iff.1 hb1).1).trans hb1
    have hup2 := hup1.trans hu2
    have ha2 := ha1.up hu2
    have hB2 := hB1.up hu2
    clear hE hL hBE hPE hPL hMl m11 hbv HM ha1 hB1 hb1 hup1
    have hS : ∀ W, Up w2 W → Up w2 W ∧ W.cell? ⟨ge, 0, none⟩ = some (.int .i64 k) ∧ W.cell? ⟨ge, 1, none⟩ = some (.int .i64 f) ∧ W.cell? ⟨ge, 2, none⟩ = some (.int .i64 t) ∧ W.cell? ⟨ge, 3, none⟩ = some (.int .u64 (id : Int)) ∧ W.cell? ⟨ge, 4, none⟩ = some (.int .u64 (n : Int)) := fun W h => by
      have h9 := (h.block _ (Array.getElem?_eq_some_iff.1 hb2).1).trans hb2
      exact ⟨h, blk_cell h9 0, blk_cell h9 1, blk_cell h9 2, blk_cell h9 3, blk_cell h9 4⟩
    go_wp2_with fail
    apply Rg.region_up _ (by kernel_rfl) (by kernel_rfl) hS
    · intro QN hQN
      iterate 9 (apply Rg.RK.ok; (· intro vs w1 hS; go_simp; with_reducible rfl); (· rfl); simp only [Act.put, List.setIfInBounds_toArray, List.set_cons_zero, List.set_cons_succ, Nat.reduceAdd])
      apply Rg.RK.opn (Sl 1 (bvs (msgH k f t))) Rg.ob [] []
      · exact fun v W1 W2 h hs => h.sta hs
      · rfl
      · intro vs w3 hK hS _ K hKK
        go_simp
        have ho := row_new w3 #[.int .u8 k, .int .u8 f, .int .u8 t] 5 (base := w3.heap.size) (sz := 1) (n := 3) (Nat.le_refl _) rfl (by omega)
        have e3 : (#[.int .u8 k, .int .u8 f, .int .u8 t] : Array Value).toList = bvs (msgH k f t) := HBV.out
        rw [e3] at ho
        exact hKK.out _ _ (Sl.own ho) (Rg.Keeps.of_up ((Up.refl _).alloc _)) (by rintro g rfl; exact ⟨by simp, .inl (Nat.le_refl _)⟩)
      simp only [Act.put, List.setIfInBounds_toArray, List.set_cons_zero, List.set_cons_succ, Nat.reduceAdd]
      iterate 2 (apply Rg.RK.ok; (· intro vs w1 hS; go_simp; with_reducible rfl); (· rfl); simp only [Act.put, List.setIfInBounds_toArray, List.set_cons_zero, List.set_cons_succ, Nat.reduceAdd])
      apply Rg.RK.opn (Sl 1 (bvs (msgH k f t ++ numB id))) Rg.ob [9] []
      · exact fun v W1 W2 h hs => h.sta hs
      · rfl
      · intro vs w1 hK hS hf K hKK
        obtain ⟨hsl, -⟩ := hf
        obtain ⟨A1, n1, c1, hv, hnc, hrd⟩ := hsl
        have HBL := Lib.hid hrd.blen
        (try dsimp only at hKK ⊢)
        rw [hv] at hKK ⊢
        go_simp
        have hcall := put_any A1 n1 c1 (msgH k f t) id w1 hrd (by have h := HBL.out; simp [msgH] at h; omega) (by omega)
        refine hcall.mono ?_
        rintro e w2 ⟨A2, n2, c2, rfl, ho1, hu2⟩
        exact hKK.out _ _ (Sl.own ho1) (Rg.Keeps.of_up hu2) (own_row ho1)
      simp only [Act.put, List.setIfInBounds_toArray, List.set_cons_zero, List.set_cons_succ, Nat.reduceAdd]
      iterate 2 (apply Rg.RK.ok; (· intro vs w1 hS; go_simp; with_reducible rfl); (· rfl); simp only [Act.put, List.setIfInBounds_toArray, List.set_cons_zero, List.set_cons_succ, Nat.reduceAdd])
      apply Rg.RK.opn (Sl 1 (bvs (msgH k f t ++ numB id ++ numB n))) Rg.ob [12] []
      · exact fun v W1 W2 h hs => h.sta hs
      · rfl
      · intro vs w1 hK hS hf K hKK
        obtain ⟨hsl, -⟩ := hf
        obtain ⟨A1, n1, c1, hv, hnc, hrd⟩ := hsl
        have HBL := Lib.hid hrd.blen
        (try dsimp only at hKK ⊢)
        rw [hv] at hKK ⊢
        go_simp
        have hcall := put_any A1 n1 c1 (msgH k f t ++ numB id) n w1 hrd (by have h := HBL.out; simp [msgH] at h; omega) (by omega)
        refine hcall.mono ?_
        rintro e w2 ⟨A2, n2, c2, rfl, ho1, hu2⟩
        exact hKK.out _ _ (Sl.own ho1) (Rg.Keeps.of_up hu2) (own_row ho1)
      simp only [Act.put, List.setIfInBounds_toArray, List.set_cons_zero, List.set_cons_succ, Nat.reduceAdd]
      apply Rg.RK.opD (fun vs W => vs 16 = vs 15) (fun _ _ => False) [] [] [15] (fun vs vs' h => by rw [h 16 (by simp), h 15 (by simp)]; exact ⟨rfl, rfl⟩)
      · exact fun _ _ _ h _ => h
      · rfl
      · intro vs w1 hK hS _ K hKK
        go_simp
        refine hKK.out _ _ ?_ (Rg.Keeps.refl _ _) (fun g hg => hg.elim)
        rw [Rg.upd_same, Rg.upd_ne _ _ (by decide)]
      simp only [Act.put, List.setIfInBounds_toArray, List.set_cons_zero, List.set_cons_succ, Nat.reduceAdd]
      apply Rg.RK.fin [15, 16]
      intro vs w8 hK hS hf
      obtain ⟨h15, h16, -⟩ := hf
      obtain ⟨C1, cn, cc, hv15, hcc, hrC⟩ := h15
      have hv16 : vs 16 = .slice C1 cn cc := Eq.trans h16 hv15
      refine hQN.out _ _ ?_
      clear hQN
      (try dsimp only)
      rw [hv15, hv16]
      generalize vs 9 = v9
      generalize vs 12 = v12
      have hu8 := keeps_up hK
      have hb8 := (hu8.block _ (Array.getElem?_eq_some_iff.1 hb2).1).trans hb2
      have hup8 := hup2.trans hu8
      have ha8 := ha2.up hu8
      have hB8 := hB2.up hu8
      have q5 := blk_cell hb8 5
      have hcn : cn ≤ 30 := by have h := hrC.blen; simp [msgH] at h; omega
      clear hS hK hu8 ha2 hB2 hb2 hb8 hup2 hv15 hv16 h16 y1 y2 y3
      go_wp2_with fail
      refine (bytes_any C1 cn cc _ A an ac l w8 hrC ha8 (by omega) han).mono ?_
      rintro e w9 ⟨D1, dn, dc, rfl, hoD, hu9⟩
      rw [HBE.out]
      rw [bytesL_yes HBE.out] at hoD
      have hdl := hoD.rd
      replace hB8 := hB8.up hu9
      clear q5
      go_wp2_with fail
      refine (fput_any B bn bc bs 9 D1 dn dc (msgD k f t id n l) w9 hB8 hdl (by omega) (by have := hdl.blen; have h2 := HML.out; unfold msgD at h2; omega)).mono ?_
      rintro e w10 ⟨E1, en, ec, rfl, hoE, hu10⟩
      rw [HPE.out]
      rw [HPL.out] at hoE
      have hup10 := (hup8.trans hu9).trans hu10
      have hsz9 := (hup8.trans hu9).size
      go_wp2_with fail
      go_ret2
      rw [HE.out, HL.out]
      exact ⟨E1, en, ec, rfl, own_base hoE (by omega), hup10⟩
    · kernel_rfl
end Go.Proofs.Ytnbdijifhimogaa
