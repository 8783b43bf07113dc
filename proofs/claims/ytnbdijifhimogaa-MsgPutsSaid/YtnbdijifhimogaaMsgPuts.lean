/-
  The law MsgPuts: the walk.
-/
import Derived.Test.YtnbdijifhimogaaMsgLaw
import Derived.Test.YtnbdijifhimogaaMsgW5
import Derived.Test.YtnbdijifhimogaaOpenMs
import Derived.Test.YtnbdijifhimogaaOpen
namespace Go.Proofs.Ytnbdijifhimogaa.msgPuts
open Go.RowKit
set_option linter.unusedVariables false
set_option linter.unusedSimpArgs false

set_option maxRecDepth 100000 in
set_option maxHeartbeats 16000000 in
theorem law_any (B : Option Addr) (bn bc : Nat) (bs : List UInt8) (e e' : MsgV) (w : World) (hB0 : IsB w B bn bc bs) (h0 : IsMsg w e) (h1 : IsMsg w e') :
    Calls Try.prog 5 #[.slice B bn bc, .agg e.cs.toArray, .agg e'.cs.toArray] w fun e w' => e = .returned (.bool true) ∧ Up w w' := by
  obtain ⟨k, f, t, id, n, A, an, ac, l⟩ := e
  obtain ⟨k', f', t', id', n', A', an', ac', l'⟩ := e'
  obtain ⟨-, -, -, -, -, ha, hac, hacm⟩ := h0
  obtain ⟨-, -, -, -, -, ha', hac', hacm'⟩ := h1
  obtain ⟨hb, hbc, -⟩ := hB0
  (try dsimp only at ha hac hacm ha' hac' hacm')
  show Calls Try.prog 5 #[.slice B bn bc, .agg #[.int .i64 k, .int .i64 f, .int .i64 t, .int .u64 (id : Int), .int .u64 (n : Int), .slice A an ac], .agg #[.int .i64 k', .int .i64 f', .int .i64 t', .int .u64 (id' : Int), .int .u64 (n' : Int), .slice A' an' ac']] w _
  obtain ⟨w2, hw2⟩ : ∃ w2, w2 = (w.alloc (.cells #[.int .i64 k, .int .i64 f, .int .i64 t, .int .u64 (id : Int), .int .u64 (n : Int), .slice A an ac] 25)).alloc (.cells #[.int .i64 k', .int .i64 f', .int .i64 t', .int .u64 (id' : Int), .int .u64 (n' : Int), .slice A' an' ac'] 25) := ⟨_, rfl⟩
  have hup2 : Up w w2 := by rw [hw2]; exact ((Up.refl w).alloc _).alloc _
  have hb2 : w2.heap[w.heap.size]? = some (.cells #[.int .i64 k, .int .i64 f, .int .i64 t, .int .u64 (id : Int), .int .u64 (n : Int), .slice A an ac] 25 (0, 0)) := by
    rw [hw2, Below.heap_alloc _ _ _ (by simp)]; exact heap_alloc_new w _
  have hc2 : w2.heap[w.heap.size + 1]? = some (.cells #[.int .i64 k', .int .i64 f', .int .i64 t', .int .u64 (id' : Int), .int .u64 (n' : Int), .slice A' an' ac'] 25 (0, 0)) := by
    rw [hw2]
    have h := heap_alloc_new (w.alloc (.cells #[.int .i64 k, .int .i64 f, .int .i64 t, .int .u64 (id : Int), .int .u64 (n : Int), .slice A an ac] 25)) (.cells #[.int .i64 k', .int .i64 f', .int .i64 t', .int .u64 (id' : Int), .int .u64 (n' : Int), .slice A' an' ac'] 25)
    rwa [World.size_alloc] at h
  have ha2 := ha.up hup2
  have ha2' := ha'.up hup2
  have hB2 := hb.up hup2
  have HW := Lib.hid hw2
  clear hw2 ha ha' hb
  obtain ⟨m1, hm1⟩ : ∃ x, x = msgB k f t id n l := ⟨_, rfl⟩
  have HM1 := Lib.hid hm1
  clear hm1
  by_cases c0 : 500 < bn
  · have c0i : (500 : Int) < (bn : Int) := by omega
    go_enter Try.func5, Try.ntmps5
    go_wp2_with fail
    rw [← HW.out]
    clear HW
    refine (awake20_any (w2)).mono ?_
    rintro e w4 ⟨rfl, hu4⟩
    go_wp2_with fail
    go_ret
    exact ⟨rfl, hup2.trans hu4⟩
  have c0i : ¬ (500 : Int) < (bn : Int) := by omega
  by_cases c1 : 100 < an
  · have c1i : (100 : Int) < (an : Int) := by omega
    go_enter Try.func5, Try.ntmps5
    go_wp2_with fail
    rw [← HW.out]
    clear HW
    refine (awake20_any (w2)).mono ?_
    rintro e w4 ⟨rfl, hu4⟩
    go_wp2_with fail
    go_ret
    exact ⟨rfl, hup2.trans hu4⟩
  have c1i : ¬ (100 : Int) < (an : Int) := by omega
  by_cases c2 : 100 < an'
  · have c2i : (100 : Int) < (an' : Int) := by omega
    go_enter Try.func5, Try.ntmps5
    go_wp2_with fail
    rw [← HW.out]
    clear HW
    refine (awake20_any (w2)).mono ?_
    rintro e w4 ⟨rfl, hu4⟩
    go_wp2_with fail
    go_ret
    exact ⟨rfl, hup2.trans hu4⟩
  have c2i : ¬ (100 : Int) < (an' : Int) := by omega
  go_enter Try.func5, Try.ntmps5
  go_wp2_with fail
  rw [← HW.out]
  clear HW
  generalize w.heap.size + 1 = g2 at hc2 ⊢
  generalize w.heap.size = g1 at hb2 ⊢
  refine (rmok_any k f t id n A an ac l w2 ha2 (by omega)).mono ?_
  rintro e w3 ⟨rfl, hu3⟩
  rw [← HM1.out]
  have hb3 := blk_up hu3 hb2
  have hc3 := blk_up hu3 hc2
  have hup3 := hup2.trans hu3
  have ha3 := ha2.up hu3
  have ha3' := ha2'.up hu3
  have hB3 := hB2.up hu3
  clear hb2 hc2 hup2 ha2 ha2' hu3 hB2
  have p0 := blk_cell hb3 0
  have p1 := blk_cell hb3 1
  have p2 := blk_cell hb3 2
  have p3 := blk_cell hb3 3
  have p4 := blk_cell hb3 4
  have p5 := blk_cell hb3 5
  go_wp2_with fail
  clear p0 p1 p2 p3 p4 p5
  refine (mput_any B bn bc bs k f t id n A an ac l w3 hB3 (by omega) ha3 (by omega)).mono ?_
  rintro e w4 ⟨X, xn, xc, rfl, hoX, hu4⟩
  have hb4 := blk_up hu4 hb3
  have hc4 := blk_up hu4 hc3
  have hup4 := hup3.trans hu4
  have ha4 := ha3.up hu4
  have ha4' := ha3'.up hu4
  have hB4 := hB3.up hu4
  clear hb3 hc3 hup3 ha3 ha3' hu4 hB3
  have hS : ∀ W, Up w4 W → Up w4 W ∧ (W.cell? ⟨g1, 0, none⟩ = some (.int .i64 k) ∧ W.cell? ⟨g1, 1, none⟩ = some (.int .i64 f) ∧ W.cell? ⟨g1, 2, none⟩ = some (.int .i64 t) ∧ W.cell? ⟨g1, 3, none⟩ = some (.int .u64 (id : Int)) ∧ W.cell? ⟨g1, 4, none⟩ = some (.int .u64 (n : Int)) ∧ W.cell? ⟨g1, 5, none⟩ = some (.slice A an ac)) ∧
      (W.cell? ⟨g2, 0, none⟩ = some (.int .i64 k') ∧ W.cell? ⟨g2, 1, none⟩ = some (.int .i64 f') ∧ W.cell? ⟨g2, 2, none⟩ = some (.int .i64 t') ∧ W.cell? ⟨g2, 3, none⟩ = some (.int .u64 (id' : Int)) ∧ W.cell? ⟨g2, 4, none⟩ = some (.int .u64 (n' : Int)) ∧ W.cell? ⟨g2, 5, none⟩ = some (.slice A' an' ac')) := fun W h => by
    have x1 := blk_up h hb4
    have x2 := blk_up h hc4
    exact ⟨h, ⟨blk_cell x1 0, blk_cell x1 1, blk_cell x1 2, blk_cell x1 3, blk_cell x1 4, blk_cell x1 5⟩, blk_cell x2 0, blk_cell x2 1, blk_cell x2 2, blk_cell x2 3, blk_cell x2 4, blk_cell x2 5⟩
  have hcOk := fun W (h : Up w4 W) => mok_any k f t id n A an ac l W (ha4.up h) (by omega)
  have hcSm := fun W (h : Up w4 W) => msame_any k f t id n A an ac l k' f' t' id' n' A' an' ac' l' W (ha4.up h) (ha4'.up h) (by omega) (by omega)
  have hcRs := fun W (h : Up w4 W) => rmsame_any k f t id n A an ac l k' f' t' id' n' A' an' ac' l' W (ha4.up h) (ha4'.up h) (by omega) (by omega)
  obtain ⟨sm, hsm⟩ : ∃ s, s = sameM k f t id n l k' f' t' id' n' l' := ⟨_, rfl⟩
  rw [← HM1.out] at hcOk
  rw [← hsm] at hcSm hcRs
  clear hsm
  have hss : (sm != sm) = false := by simp
  cases m1
  · have hE : mputE k f t id n l = 1 := by unfold mputE; rw [← HM1.out]; rfl
    have hL : mputL bs k f t id n l = [] := by unfold mputL; rw [← HM1.out]; rfl
    rw [hE]
    rw [hL] at hoX
    have hx0 : xn = 0 := hoX.rd.blen
    subst hx0
    clear hE hL HM1 hoX
    go_wp2_with fail
    apply Rg.region_up _ (by kernel_rfl) (by kernel_rfl) hS
    · intro QN hQN
      iterate 1 (apply Rg.RK.ok; (· intro vs w1 hS; go_simp; with_reducible rfl); (· rfl); simp only [Act.put, List.setIfInBounds_toArray, List.set_cons_zero, List.set_cons_succ, Nat.reduceAdd])
      apply Rg.RK.call (.bool false) []
      · rfl
      · intro vs w1 hK hS _ K hKK
        go_simp
        refine (hcOk w1 hS.1).mono ?_
        rintro e w2 ⟨rfl, hu2⟩
        exact hKK.out _ hu2
      simp only [Act.put, List.setIfInBounds_toArray, List.set_cons_zero, List.set_cons_succ, Nat.reduceAdd]
      iterate 3 (apply Rg.RK.ok; (· intro vs w1 hS; go_simp; with_reducible rfl); (· rfl); simp only [Act.put, List.setIfInBounds_toArray, List.set_cons_zero, List.set_cons_succ, Nat.reduceAdd])
      iterate 2 (apply Rg.RK.gok (t := 40); (· intro vs w1 hS; go_simp; with_reducible rfl); (· rfl); (· intro vs; rfl); simp only [Act.put, List.setIfInBounds_toArray, List.set_cons_zero, List.set_cons_succ, Nat.reduceAdd])
      apply Rg.RK.gcall (t := 40) (.bool sm) []
      · rfl
      · intro vs; rfl
      · intro vs w1 hK hS _ K hKK
        go_simp
        refine (hcSm w1 hS.1).mono ?_
        rintro e w2 ⟨rfl, hu2⟩
        exact hKK.out _ hu2
      simp only [Act.put, List.setIfInBounds_toArray, List.set_cons_zero, List.set_cons_succ, Nat.reduceAdd]
      iterate 2 (apply Rg.RK.gok (t := 40); (· intro vs w1 hS; go_simp; with_reducible rfl); (· rfl); (· intro vs; rfl); simp only [Act.put, List.setIfInBounds_toArray, List.set_cons_zero, List.set_cons_succ, Nat.reduceAdd])
      apply Rg.RK.gcall (t := 40) (.bool sm) []
      · rfl
      · intro vs; rfl
      · intro vs w1 hK hS _ K hKK
        go_simp
        refine (hcRs w1 hS.1).mono ?_
        rintro e w2 ⟨rfl, hu2⟩
        exact hKK.out _ hu2
      simp only [Act.put, List.setIfInBounds_toArray, List.set_cons_zero, List.set_cons_succ, Nat.reduceAdd]
      iterate 1 (apply Rg.RK.gok (t := 40); (· intro vs w1 hS; go_simp; with_reducible rfl); (· rfl); (· intro vs; rfl); simp only [Act.put, List.setIfInBounds_toArray, List.set_cons_zero, List.set_cons_succ, Nat.reduceAdd])
      iterate 2 (apply Rg.RK.ok; (· intro vs w1 hS; go_simp; with_reducible rfl); (· rfl); simp only [Act.put, List.setIfInBounds_toArray, List.set_cons_zero, List.set_cons_succ, Nat.reduceAdd])
      iterate 4 (apply Rg.RK.gok (t := 49); (· intro vs w1 hS; go_simp; with_reducible rfl); (· rfl); (· intro vs; rfl); simp only [Act.put, List.setIfInBounds_toArray, List.set_cons_zero, List.set_cons_succ, Nat.reduceAdd])
      iterate 2 (apply Rg.RK.ok; (· intro vs w1 hS; go_simp; with_reducible rfl); (· rfl); simp only [Act.put, List.setIfInBounds_toArray, List.set_cons_zero, List.set_cons_succ, Nat.reduceAdd])
      iterate 3 (apply Rg.RK.gok (t := 55); (· intro vs w1 hS; go_simp; with_reducible rfl); (· rfl); (· intro vs; rfl); simp only [Act.put, List.setIfInBounds_toArray, List.set_cons_zero, List.set_cons_succ, Nat.reduceAdd])
      iterate 3 (apply Rg.RK.gok (t := 58); (· intro vs w1 hS; go_simp; with_reducible rfl); (· rfl); (· intro vs; rfl); simp only [Act.put, List.setIfInBounds_toArray, List.set_cons_zero, List.set_cons_succ, Nat.reduceAdd])
      iterate 3 (apply Rg.RK.gok (t := 61); (· intro vs w1 hS; go_simp; with_reducible rfl); (· rfl); (· intro vs; rfl); simp only [Act.put, List.setIfInBounds_toArray, List.set_cons_zero, List.set_cons_succ, Nat.reduceAdd])
      iterate 1 (apply Rg.RK.gok (t := 58); (· intro vs w1 hS; go_simp; with_reducible rfl); (· rfl); (· intro vs; rfl); simp only [Act.put, List.setIfInBounds_toArray, List.set_cons_zero, List.set_cons_succ, Nat.reduceAdd])
      iterate 1 (apply Rg.RK.gok (t := 55); (· intro vs w1 hS; go_simp; with_reducible rfl); (· rfl); (· intro vs; rfl); simp only [Act.put, List.setIfInBounds_toArray, List.set_cons_zero, List.set_cons_succ, Nat.reduceAdd])
      iterate 1 (apply Rg.RK.ok; (· intro vs w1 hS; go_simp; with_reducible rfl); (· rfl); simp only [Act.put, List.setIfInBounds_toArray, List.set_cons_zero, List.set_cons_succ, Nat.reduceAdd])
      apply Rg.RK.fin []
      intro vs w1 hK hS _
      refine hQN.out _ _ ?_
      clear hQN
      have hup5 := hup4.trans (keeps_up hK)
      go_wp2_with fail
      refine (awake20_any (_)).mono ?_
      rintro e w4 ⟨rfl, hu4⟩
      go_wp2_with fail
      go_ret
      exact ⟨rfl, hup5.trans hu4⟩
    · kernel_rfl
  · obtain ⟨⟨za1, -⟩, ⟨za2, -⟩, ⟨za3, -⟩, -⟩ := msgB_facts (HM1.out.symm)
    obtain ⟨kN, hkN⟩ : ∃ q : Nat, k = (q : Int) := ⟨k.toNat, by omega⟩
    obtain ⟨fN, hfN⟩ : ∃ q : Nat, f = (q : Int) := ⟨f.toNat, by omega⟩
    obtain ⟨tN, htN⟩ : ∃ q : Nat, t = (q : Int) := ⟨t.toNat, by omega⟩
    subst hkN; subst hfN; subst htN
    clear za1 za2 za3
    have hE : mputE kN fN tN id n l = 0 := by unfold mputE; rw [← HM1.out]; rfl
    have hL : mputL bs kN fN tN id n l = bs ++ frameB 9 (msgD kN fN tN id n l) := by unfold mputL; rw [← HM1.out]; rfl
    rw [hE]
    rw [hL] at hoX
    have hd1 := msgD_le HM1.out.symm
    have hl1 := frameB_len 9 (msgD kN fN tN id n l)
    have hr1 : readM (frameB 9 (msgD kN fN tN id n l)) = (0, kN, fN, tN, id, n, l) := readM_selfN HM1.out.symm
    have hs1 := same_selfM kN fN tN id n l
    have hcMsg := fun W (h : Up w4 W) => rmsg_any kN fN tN id n A an ac l W (ha4.up h) HM1.out.symm
    generalize frameB 9 (msgD kN fN tN id n l) = F1 at *
    generalize (msgD kN fN tN id n l).length = d1 at *
    have HD1 := Lib.hid hl1
    have HR1 := Lib.hid hr1
    have HS1 := Lib.hid hs1
    clear hE hL HM1 hl1 hr1 hs1
    go_wp2_with fail
    apply Rg.region_up _ (by kernel_rfl) (by kernel_rfl) hS
    · intro QN hQN
      iterate 1 (apply Rg.RK.ok; (· intro vs w1 hS; go_simp; with_reducible rfl); (· rfl); simp only [Act.put, List.setIfInBounds_toArray, List.set_cons_zero, List.set_cons_succ, Nat.reduceAdd])
      apply Rg.RK.call (.bool true) []
      · rfl
      · intro vs w1 hK hS _ K hKK
        go_simp
        refine (hcOk w1 hS.1).mono ?_
        rintro e w2 ⟨rfl, hu2⟩
        exact hKK.out _ hu2
      simp only [Act.put, List.setIfInBounds_toArray, List.set_cons_zero, List.set_cons_succ, Nat.reduceAdd]
      iterate 3 (apply Rg.RK.ok; (· intro vs w1 hS; go_simp; with_reducible rfl); (· rfl); simp only [Act.put, List.setIfInBounds_toArray, List.set_cons_zero, List.set_cons_succ, Nat.reduceAdd])
      iterate 2 (apply Rg.RK.gok (t := 40); (· intro vs w1 hS; go_simp; with_reducible rfl); (· rfl); (· intro vs; rfl); simp only [Act.put, List.setIfInBounds_toArray, List.set_cons_zero, List.set_cons_succ, Nat.reduceAdd])
      apply Rg.RK.gcall (t := 40) (.bool sm) []
      · rfl
      · intro vs; rfl
      · intro vs w1 hK hS _ K hKK
        go_simp
        refine (hcSm w1 hS.1).mono ?_
        rintro e w2 ⟨rfl, hu2⟩
        exact hKK.out _ hu2
      simp only [Act.put, List.setIfInBounds_toArray, List.set_cons_zero, List.set_cons_succ, Nat.reduceAdd]
      iterate 2 (apply Rg.RK.gok (t := 40); (· intro vs w1 hS; go_simp; with_reducible rfl); (· rfl); (· intro vs; rfl); simp only [Act.put, List.setIfInBounds_toArray, List.set_cons_zero, List.set_cons_succ, Nat.reduceAdd])
      apply Rg.RK.gcall (t := 40) (.bool sm) []
      · rfl
      · intro vs; rfl
      · intro vs w1 hK hS _ K hKK
        go_simp
        refine (hcRs w1 hS.1).mono ?_
        rintro e w2 ⟨rfl, hu2⟩
        exact hKK.out _ hu2
      simp only [Act.put, List.setIfInBounds_toArray, List.set_cons_zero, List.set_cons_succ, Nat.reduceAdd]
      iterate 1 (apply Rg.RK.gok (t := 40); (· intro vs w1 hS; go_simp; with_reducible rfl); (· rfl); (· intro vs; rfl); simp only [Act.put, List.setIfInBounds_toArray, List.set_cons_zero, List.set_cons_succ, Nat.reduceAdd])
      iterate 2 (apply Rg.RK.ok; (· intro vs w1 hS; go_simp; with_reducible rfl); (· rfl); simp only [Act.put, List.setIfInBounds_toArray, List.set_cons_zero, List.set_cons_succ, Nat.reduceAdd])
      iterate 4 (apply Rg.RK.gok (t := 49); (· intro vs w1 hS; go_simp; with_reducible rfl); (· rfl); (· intro vs; rfl); simp only [Act.put, List.setIfInBounds_toArray, List.set_cons_zero, List.set_cons_succ, Nat.reduceAdd])
      iterate 2 (apply Rg.RK.ok; (· intro vs w1 hS; go_simp; with_reducible rfl); (· rfl); simp only [Act.put, List.setIfInBounds_toArray, List.set_cons_zero, List.set_cons_succ, Nat.reduceAdd])
      iterate 3 (apply Rg.RK.gok (t := 55); (· intro vs w1 hS; go_simp; with_reducible rfl); (· rfl); (· intro vs; rfl); simp only [Act.put, List.setIfInBounds_toArray, List.set_cons_zero, List.set_cons_succ, Nat.reduceAdd])
      iterate 3 (apply Rg.RK.gno (t := 58) (y := false); (· rfl); (· intro vs; rfl); (· rfl); simp only [Act.put, List.setIfInBounds_toArray, List.set_cons_zero, List.set_cons_succ, Nat.reduceAdd])
      iterate 3 (apply Rg.RK.gun (t := 61); (· rfl); (· intro vs; rfl); simp only [Act.put, List.setIfInBounds_toArray, List.set_cons_zero, List.set_cons_succ, Nat.reduceAdd])
      iterate 1 (apply Rg.RK.gno (t := 58) (y := false); (· rfl); (· intro vs; rfl); (· rfl); simp only [Act.put, List.setIfInBounds_toArray, List.set_cons_zero, List.set_cons_succ, Nat.reduceAdd])
      iterate 1 (apply Rg.RK.gok (t := 55); (· intro vs w1 hS; go_simp; with_reducible rfl); (· rfl); (· intro vs; rfl); simp only [Act.put, List.setIfInBounds_toArray, List.set_cons_zero, List.set_cons_succ, Nat.reduceAdd])
      iterate 1 (apply Rg.RK.ok; (· intro vs w1 hS; go_simp; with_reducible rfl); (· rfl); simp only [Act.put, List.setIfInBounds_toArray, List.set_cons_zero, List.set_cons_succ, Nat.reduceAdd])
      apply Rg.RK.fin []
      intro vs w1 hK hS _
      refine hQN.out _ _ ?_
      clear hQN
      have hu5 := keeps_up hK
      have hup5 := hup4.trans hu5
      have hX5 := hoX.rd.up hu5
      have hxc := own_cap hoX
      have hxn := hX5.blen
      have hbn := hB4.blen
      rw [List.length_append, ← hbn] at hxn
      have hdx : (bs ++ F1).drop bn = F1 := by rw [hbn, List.drop_left]
      have hXd := hX5.bfrom (k := bn) (cap := xc) (by omega) hxc
      rw [hdx] at hXd
      have i1 : (bn : Int) ≤ (xn : Int) := by omega
      have i2 : bn ≤ xn := by omega
      have b9 : xn ≤ 70000 := by have := HD1.out; omega
      have HXN := Lib.hid hxn
      have HBN := Lib.hid hbn
      have CUT9 : ∀ W, (Instr.slice 28 (.slice X xn xc) (some (.int .i64 (bn : Int))) none none).run Try.prog W = .ok (.slice (cutA X xc bn 1) (xn - bn) (xc - bn)) W := fun W => cut_from_b W X xn xc .i64 (bn : Int) (by omega) i1
      clear hS hK hxn hbn hdx hoX hcOk hcSm hcRs hss
      have hb5 := blk_up hu5 hb4
      have ha5 := ha4.up hu5
      have hB5 := hB4.up hu5
      clear hb4 hc4 hup4 ha4 ha4' hB4
      go_wp2_with fail
      refine (mread_any (cutA X xc bn 1) (xn - bn) (xc - bn) F1 _ hXd (by omega) (by omega)).mono ?_
      rintro e w6 ⟨Y, yn, yc, rfl, hY, hyc, hu6⟩
      rw [HR1.out] at hY ⊢
      (try dsimp only at hY ⊢)
      have hyn := hY.ilen
      have han := ha5.ilen
      have hub : Up w6 (w6.alloc (.cells #[.int .i64 (kN : Int), .int .i64 (fN : Int), .int .i64 (tN : Int), .int .u64 (id : Int), .int .u64 (n : Int), .slice Y yn yc] 25)) := (Up.refl w6).alloc _
      have hy7 : (w6.alloc (.cells #[.int .i64 (kN : Int), .int .i64 (fN : Int), .int .i64 (tN : Int), .int .u64 (id : Int), .int .u64 (n : Int), .slice Y yn yc] 25)).heap[w6.heap.size]? = some (.cells #[.int .i64 (kN : Int), .int .i64 (fN : Int), .int .i64 (tN : Int), .int .u64 (id : Int), .int .u64 (n : Int), .slice Y yn yc] 25 (0, 0)) := heap_alloc_new w6 _
      have hu67 := hu6.trans hub
      have hb7 := blk_up hu67 hb5
      have ha7 := ha5.up hu67
      have hB7 := hB5.up hu67
      have hX7 : Rd _ _ 1 X xn (bvs (cc bs F1)) := hX5.up hu67
      have hY7 := hY.up hub
      have hup7 := hup5.trans hu67
      have hcMsg7 := fun W (h : Up (w6.alloc (.cells #[.int .i64 (kN : Int), .int .i64 (fN : Int), .int .i64 (tN : Int), .int .u64 (id : Int), .int .u64 (n : Int), .slice Y yn yc] 25)) W) => hcMsg W ((hu5.trans hu67).trans h)
      have HYN := Lib.hid hyn
      have HAN := Lib.hid han
      clear hb5 ha5 hB5 hX5 hY hu6 hub hup5 hcMsg hu67 hu5 hXd CUT9 hyn han
      go_wp2_with fail
      generalize w6.alloc (.cells #[.int .i64 (kN : Int), .int .i64 (fN : Int), .int .i64 (tN : Int), .int .u64 (id : Int), .int .u64 (n : Int), .slice Y yn yc] 25) = w7 at *
      generalize w6.heap.size = gy at *
      have hcS7 := fun W (h : Up w7 W) => rmsame_any (kN : Int) (fN : Int) (tN : Int) id n Y yn yc l kN fN tN id n A an ac l W (hY7.up h) (ha7.up h) (by have := HYN.out; have := HAN.out; omega) (by omega)
      rw [HS1.out] at hcS7
      have hself := tx_beq (rfl : cc bs F1 = cc bs F1)
      have hS7 : ∀ W, Up w7 W → Up w7 W ∧ (W.cell? ⟨g1, 0, none⟩ = some (.int .i64 kN) ∧ W.cell? ⟨g1, 1, none⟩ = some (.int .i64 fN) ∧ W.cell? ⟨g1, 2, none⟩ = some (.int .i64 tN) ∧ W.cell? ⟨g1, 3, none⟩ = some (.int .u64 (id : Int)) ∧ W.cell? ⟨g1, 4, none⟩ = some (.int .u64 (n : Int)) ∧ W.cell? ⟨g1, 5, none⟩ = some (.slice A an ac)) ∧
          (W.cell? ⟨gy, 0, none⟩ = some (.int .i64 (kN : Int)) ∧ W.cell? ⟨gy, 1, none⟩ = some (.int .i64 (fN : Int)) ∧ W.cell? ⟨gy, 2, none⟩ = some (.int .i64 (tN : Int)) ∧ W.cell? ⟨gy, 3, none⟩ = some (.int .u64 (id : Int)) ∧ W.cell? ⟨gy, 4, none⟩ = some (.int .u64 (n : Int)) ∧ W.cell? ⟨gy, 5, none⟩ = some (.slice Y yn yc)) := fun W h => by
        have x1 := blk_up h hb7
        have x2 := blk_up h hy7
        exact ⟨h, ⟨blk_cell x1 0, blk_cell x1 1, blk_cell x1 2, blk_cell x1 3, blk_cell x1 4, blk_cell x1 5⟩, blk_cell x2 0, blk_cell x2 1, blk_cell x2 2, blk_cell x2 3, blk_cell x2 4, blk_cell x2 5⟩
      have hbs : bs.length ≤ 500 := by have := HBN.out; omega
      have hfs : F1.length ≤ 60000 := by have := HD1.out; omega
      apply Rg.region_up _ (by kernel_rfl) (by kernel_rfl) hS7
      · intro QN hQN
        iterate 1 (apply Rg.RK.ok; (· intro vs w1 hS; go_simp; with_reducible rfl); (· rfl); simp only [Act.put, List.setIfInBounds_toArray, List.set_cons_zero, List.set_cons_succ, Nat.reduceAdd])
        apply Rg.RK.ok (v := .string (tx (cc bs F1)))
        · intro vs w1 hS
          exact exec_str rfl rfl (hX7.up hS.1)
        · rfl
        simp only [Act.put, List.setIfInBounds_toArray, List.set_cons_zero, List.set_cons_succ, Nat.reduceAdd]
        iterate 1 (apply Rg.RK.ok; (· intro vs w1 hS; go_simp; with_reducible rfl); (· rfl); simp only [Act.put, List.setIfInBounds_toArray, List.set_cons_zero, List.set_cons_succ, Nat.reduceAdd])
        apply Rg.RK.ok (v := .string (tx (bs)))
        · intro vs w1 hS
          exact exec_str rfl rfl (hB7.up hS.1)
        · rfl
        simp only [Act.put, List.setIfInBounds_toArray, List.set_cons_zero, List.set_cons_succ, Nat.reduceAdd]
        iterate 1 (apply Rg.RK.ok; (· intro vs w1 hS; go_simp; with_reducible rfl); (· rfl); simp only [Act.put, List.setIfInBounds_toArray, List.set_cons_zero, List.set_cons_succ, Nat.reduceAdd])
        apply Rg.RK.call (.string (tx F1)) []
        · rfl
        · intro vs w1 hK hS _ K hKK
          go_simp
          refine (hcMsg7 w1 hS.1).mono ?_
          rintro e w2 ⟨rfl, hu2⟩
          exact hKK.out _ hu2
        simp only [Act.put, List.setIfInBounds_toArray, List.set_cons_zero, List.set_cons_succ, Nat.reduceAdd]
        (apply Rg.RK.ok; (· intro vs w1 hS; go_simp; rw [if_neg (by simp [tx_size, cc_length]; omega), tx_append]); (· rfl); simp only [Act.put, List.setIfInBounds_toArray, List.set_cons_zero, List.set_cons_succ, Nat.reduceAdd])
        iterate 2 (apply Rg.RK.ok; (· intro vs w1 hS; go_simp; with_reducible rfl); (· rfl); simp only [Act.put, List.setIfInBounds_toArray, List.set_cons_zero, List.set_cons_succ, Nat.reduceAdd])
        iterate 2 (apply Rg.RK.gok (t := 87); (· intro vs w1 hS; go_simp; with_reducible rfl); (· rfl); (· intro vs; rfl); simp only [Act.put, List.setIfInBounds_toArray, List.set_cons_zero, List.set_cons_succ, Nat.reduceAdd])
        iterate 2 (apply Rg.RK.ok; (· intro vs w1 hS; go_simp; with_reducible rfl); (· rfl); simp only [Act.put, List.setIfInBounds_toArray, List.set_cons_zero, List.set_cons_succ, Nat.reduceAdd])
        iterate 2 (apply Rg.RK.gok (t := 91); (· intro vs w1 hS; go_simp; with_reducible rfl); (· rfl); (· intro vs; rfl); simp only [Act.put, List.setIfInBounds_toArray, List.set_cons_zero, List.set_cons_succ, Nat.reduceAdd])
        apply Rg.RK.gcall (t := 91) (.bool true) []
        · rfl
        · intro vs; rfl
        · intro vs w1 hK hS _ K hKK
          go_simp
          refine (hcS7 w1 hS.1).mono ?_
          rintro e w2 ⟨rfl, hu2⟩
          exact hKK.out _ hu2
        simp only [Act.put, List.setIfInBounds_toArray, List.set_cons_zero, List.set_cons_succ, Nat.reduceAdd]
        iterate 2 (apply Rg.RK.ok; (· intro vs w1 hS; go_simp; with_reducible rfl); (· rfl); simp only [Act.put, List.setIfInBounds_toArray, List.set_cons_zero, List.set_cons_succ, Nat.reduceAdd])
        apply Rg.RK.gcall (t := 96) (.bool true) []
        · rfl
        · intro vs; rfl
        · intro vs w1 hK hS _ K hKK
          go_simp
          refine (awake20_any _).mono ?_
          rintro e w2 ⟨rfl, hu2⟩
          exact hKK.out _ hu2
        simp only [Act.put, List.setIfInBounds_toArray, List.set_cons_zero, List.set_cons_succ, Nat.reduceAdd]
        iterate 2 (apply Rg.RK.ok; (· intro vs w1 hS; go_simp; with_reducible rfl); (· rfl); simp only [Act.put, List.setIfInBounds_toArray, List.set_cons_zero, List.set_cons_succ, Nat.reduceAdd])
        apply Rg.RK.fin []
        intro vs w1 hK hS _
        refine hQN.out _ _ ?_
        clear hQN
        have hup9 := hup7.trans (keeps_up hK)
        go_wp2_with fail
        go_ret
        exact ⟨rfl, hup9⟩
      · kernel_rfl
    · kernel_rfl
end Go.Proofs.Ytnbdijifhimogaa.msgPuts
