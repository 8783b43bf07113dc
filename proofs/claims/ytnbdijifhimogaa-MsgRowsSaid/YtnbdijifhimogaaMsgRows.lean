/-
  The law MsgRows: the walk.
-/
import Derived.Test.YtnbdijifhimogaaMsgLaw
import Derived.Test.YtnbdijifhimogaaMsgW7
import Derived.Test.YtnbdijifhimogaaOpenMs
namespace Go.Proofs.Ytnbdijifhimogaa.msgRows
open Go.RowKit
set_option linter.unusedVariables false
set_option linter.unusedSimpArgs false

set_option maxRecDepth 100000 in
set_option maxHeartbeats 16000000 in
theorem law_any (e e' : MsgV) (w : World) (h0 : IsMsg w e) (h1 : IsMsg w e') :
    Calls Try.prog 4 #[.agg e.cs.toArray, .agg e'.cs.toArray] w fun e w' => e = .returned (.bool true) ∧ Up w w' := by
  obtain ⟨k, f, t, id, n, A, an, ac, l⟩ := e
  obtain ⟨k', f', t', id', n', A', an', ac', l'⟩ := e'
  obtain ⟨-, -, -, -, -, ha, hac, hacm⟩ := h0
  obtain ⟨-, -, -, -, -, ha', hac', hacm'⟩ := h1
  (try dsimp only at ha hac hacm ha' hac' hacm')
  show Calls Try.prog 4 #[.agg #[.int .i64 k, .int .i64 f, .int .i64 t, .int .u64 (id : Int), .int .u64 (n : Int), .slice A an ac], .agg #[.int .i64 k', .int .i64 f', .int .i64 t', .int .u64 (id' : Int), .int .u64 (n' : Int), .slice A' an' ac']] w _
  obtain ⟨w2, hw2⟩ : ∃ w2, w2 = (w.alloc (.cells #[.int .i64 k, .int .i64 f, .int .i64 t, .int .u64 (id : Int), .int .u64 (n : Int), .slice A an ac] 25)).alloc (.cells #[.int .i64 k', .int .i64 f', .int .i64 t', .int .u64 (id' : Int), .int .u64 (n' : Int), .slice A' an' ac'] 25) := ⟨_, rfl⟩
  have hup2 : Up w w2 := by rw [hw2]; exact ((Up.refl w).alloc _).alloc _
  have hb2 : w2.heap[w.heap.size]? = some (.cells #[.int .i64 k, .int .i64 f, .int .i64 t, .int .u64 (id : Int), .int .u64 (n : Int), .slice A an ac] 25 (0, 0)) := by
    rw [hw2, Below.heap_alloc _ _ _ (by simp)]; exact heap_alloc_new w _
  have hc2 : w2.heap[w.heap.size + 1]? = some (.cells #[.int .i64 k', .int .i64 f', .int .i64 t', .int .u64 (id' : Int), .int .u64 (n' : Int), .slice A' an' ac'] 25 (0, 0)) := by
    rw [hw2]
    have h := heap_alloc_new (w.alloc (.cells #[.int .i64 k, .int .i64 f, .int .i64 t, .int .u64 (id : Int), .int .u64 (n : Int), .slice A an ac] 25)) (.cells #[.int .i64 k', .int .i64 f', .int .i64 t', .int .u64 (id' : Int), .int .u64 (n' : Int), .slice A' an' ac'] 25)
    rwa [World.size_alloc] at h
  have ha2 := ha.up hup2
  have ha2' := ha'.up hup2
  have HW := Lib.hid hw2
  clear hw2 ha ha'
  obtain ⟨m1, hm1⟩ : ∃ x, x = msgB k f t id n l := ⟨_, rfl⟩
  obtain ⟨m2, hm2⟩ : ∃ x, x = msgB k' f' t' id' n' l' := ⟨_, rfl⟩
  have HM1 := Lib.hid hm1
  have HM2 := Lib.hid hm2
  clear hm1 hm2
  go_enter Try.func4, Try.ntmps4
  go_wp2_with fail
  rw [← HW.out]
  clear HW
  generalize w.heap.size + 1 = g2 at hc2 ⊢
  generalize w.heap.size = g1 at hb2 ⊢
  have p0 := blk_cell hb2 0
  have p1 := blk_cell hb2 1
  have p2 := blk_cell hb2 2
  have p3 := blk_cell hb2 3
  have p4 := blk_cell hb2 4
  have p5 := blk_cell hb2 5
  have q0 := blk_cell hc2 0
  have q1 := blk_cell hc2 1
  have q2 := blk_cell hc2 2
  have q3 := blk_cell hc2 3
  have q4 := blk_cell hc2 4
  have q5 := blk_cell hc2 5
  go_wp2_with fail
  clear p0 p1 p2 p3 p4 p5
  clear q0 q1 q2 q3 q4 q5
  refine (rmok_any k f t id n A an ac l w2 ha2 (by omega)).mono ?_
  rintro e w3 ⟨rfl, hu3⟩
  rw [← HM1.out]
  have hb3 := blk_up hu3 hb2
  have hc3 := blk_up hu3 hc2
  have hup3 := hup2.trans hu3
  have ha3 := ha2.up hu3
  have ha3' := ha2'.up hu3
  clear hb2 hc2 hup2 ha2 ha2' hu3
  cases m1
  · go_wp2_with fail
    refine (awake20_any (w3)).mono ?_
    rintro e w4 ⟨rfl, hu4⟩
    go_wp2_with fail
    go_ret
    exact ⟨rfl, hup3.trans hu4⟩
  · have p0 := blk_cell hb3 0
    have p1 := blk_cell hb3 1
    have p2 := blk_cell hb3 2
    have p3 := blk_cell hb3 3
    have p4 := blk_cell hb3 4
    have p5 := blk_cell hb3 5
    have q0 := blk_cell hc3 0
    have q1 := blk_cell hc3 1
    have q2 := blk_cell hc3 2
    have q3 := blk_cell hc3 3
    have q4 := blk_cell hc3 4
    have q5 := blk_cell hc3 5
    go_wp2_with fail
    clear p0 p1 p2 p3 p4 p5
    clear q0 q1 q2 q3 q4 q5
    refine (rmok_any k' f' t' id' n' A' an' ac' l' w3 ha3' (by omega)).mono ?_
    rintro e w4 ⟨rfl, hu4⟩
    rw [← HM2.out]
    have hb4 := blk_up hu4 hb3
    have hc4 := blk_up hu4 hc3
    have hup4 := hup3.trans hu4
    have ha4 := ha3.up hu4
    have ha4' := ha3'.up hu4
    clear hb3 hc3 hup3 ha3 ha3' hu4
    have p0 := blk_cell hb4 0
    have p1 := blk_cell hb4 1
    have p2 := blk_cell hb4 2
    have p3 := blk_cell hb4 3
    have p4 := blk_cell hb4 4
    have p5 := blk_cell hb4 5
    have q0 := blk_cell hc4 0
    have q1 := blk_cell hc4 1
    have q2 := blk_cell hc4 2
    have q3 := blk_cell hc4 3
    have q4 := blk_cell hc4 4
    have q5 := blk_cell hc4 5
    cases m2
    · go_wp2_with fail
      refine (awake20_any (w4)).mono ?_
      rintro e w4 ⟨rfl, hu4⟩
      go_wp2_with fail
      go_ret
      exact ⟨rfl, hup4.trans hu4⟩
    · by_cases c1 : 60 < an
      · have c1i : (60 : Int) < (an : Int) := by omega
        go_wp2_with fail
        refine (awake20_any (w4)).mono ?_
        rintro e w4 ⟨rfl, hu4⟩
        go_wp2_with fail
        go_ret
        exact ⟨rfl, hup4.trans hu4⟩
      · have c1i : ¬ (60 : Int) < (an : Int) := by omega
        by_cases c2 : 60 < an'
        · have c2i : (60 : Int) < (an' : Int) := by omega
          go_wp2_with fail
          refine (awake20_any (w4)).mono ?_
          rintro e w4 ⟨rfl, hu4⟩
          go_wp2_with fail
          go_ret
          exact ⟨rfl, hup4.trans hu4⟩
        · have c2i : ¬ (60 : Int) < (an' : Int) := by omega
          obtain ⟨⟨za1, -⟩, ⟨za2, -⟩, ⟨za3, -⟩, -⟩ := msgB_facts (HM1.out.symm)
          obtain ⟨kN, hkN⟩ : ∃ q : Nat, k = (q : Int) := ⟨k.toNat, by omega⟩
          obtain ⟨fN, hfN⟩ : ∃ q : Nat, f = (q : Int) := ⟨f.toNat, by omega⟩
          obtain ⟨tN, htN⟩ : ∃ q : Nat, t = (q : Int) := ⟨t.toNat, by omega⟩
          subst hkN; subst hfN; subst htN
          clear za1 za2 za3
          obtain ⟨⟨za1, -⟩, ⟨za2, -⟩, ⟨za3, -⟩, -⟩ := msgB_facts (HM2.out.symm)
          obtain ⟨k'N, hkN⟩ : ∃ q : Nat, k' = (q : Int) := ⟨k'.toNat, by omega⟩
          obtain ⟨f'N, hfN⟩ : ∃ q : Nat, f' = (q : Int) := ⟨f'.toNat, by omega⟩
          obtain ⟨t'N, htN⟩ : ∃ q : Nat, t' = (q : Int) := ⟨t'.toNat, by omega⟩
          subst hkN; subst hfN; subst htN
          clear za1 za2 za3
          have hE1 : mputE kN fN tN id n l = 0 := by unfold mputE; rw [← HM1.out]; rfl
          have hL1 : mputL [] kN fN tN id n l = frameB 9 (msgD kN fN tN id n l) := by unfold mputL; rw [← HM1.out]; rfl
          have hE2 : mputE k'N f'N t'N id' n' l' = 0 := by unfold mputE; rw [← HM2.out]; rfl
          have hL2 : mputL (frameB 9 (msgD kN fN tN id n l)) k'N f'N t'N id' n' l' = frameB 9 (msgD kN fN tN id n l) ++ frameB 9 (msgD k'N f'N t'N id' n' l') := by unfold mputL; rw [← HM2.out]; rfl
          have hd1 := msgD_le HM1.out.symm
          have hd2 := msgD_le HM2.out.symm
          have hl1 := frameB_len 9 (msgD kN fN tN id n l)
          have hl2 := frameB_len 9 (msgD k'N f'N t'N id' n' l')
          have hr1 : readM (frameB 9 (msgD kN fN tN id n l)) = (0, kN, fN, tN, id, n, l) := readM_selfN HM1.out.symm
          have hr2 : readM (frameB 9 (msgD k'N f'N t'N id' n' l')) = (0, k'N, f'N, t'N, id', n', l') := readM_selfN HM2.out.symm
          have hr3 : readM (frameB 9 (msgD kN fN tN id n l) ++ frameB 9 (msgD k'N f'N t'N id' n' l')) = (3, mt0) := readM_more HM1.out.symm (by intro h; rw [h] at hl2; simp at hl2)
          have hs1 := same_selfM kN fN tN id n l
          have hs2 := same_selfM k'N f'N t'N id' n' l'
          generalize frameB 9 (msgD kN fN tN id n l) = F1 at *
          generalize frameB 9 (msgD k'N f'N t'N id' n' l') = F2 at *
          generalize (msgD kN fN tN id n l).length = d1 at *
          generalize (msgD k'N f'N t'N id' n' l').length = d2 at *
          have HE1 := Lib.hid hE1
          have HL1 := Lib.hid hL1
          have HE2 := Lib.hid hE2
          have HL2 := Lib.hid hL2
          have HD1 := Lib.hid hl1
          have HD2 := Lib.hid hl2
          have HR1 := Lib.hid hr1
          have HR2 := Lib.hid hr2
          have HR3 := Lib.hid hr3
          have HS1 := Lib.hid hs1
          have HS2 := Lib.hid hs2
          clear hE1 hL1 hE2 hL2 hl1 hl2 hr1 hr2 hr3 hs1 hs2 HM1 HM2
          go_wp2_with fail
          clear p0 p1 p2 p3 p4 p5
          clear q0 q1 q2 q3 q4 q5
          refine (mput_any none 0 0 [] kN fN tN id n A an ac l w4 Rd.empty (by omega) ha4 (by omega)).mono ?_
          rintro e w5 ⟨X, xn, xc, rfl, hoX, hu5⟩
          rw [HE1.out]
          rw [HL1.out] at hoX
          have hb5 := blk_up hu5 hb4
          have hc5 := blk_up hu5 hc4
          have hup5 := hup4.trans hu5
          have ha5 := ha4.up hu5
          have ha5' := ha4'.up hu5
          have hxn := hoX.rd.blen
          clear hb4 hc4 hup4 ha4 ha4' hu5
          have p0 := blk_cell hb5 0
          have p1 := blk_cell hb5 1
          have p2 := blk_cell hb5 2
          have p3 := blk_cell hb5 3
          have p4 := blk_cell hb5 4
          have p5 := blk_cell hb5 5
          have q0 := blk_cell hc5 0
          have q1 := blk_cell hc5 1
          have q2 := blk_cell hc5 2
          have q3 := blk_cell hc5 3
          have q4 := blk_cell hc5 4
          have q5 := blk_cell hc5 5
          have HXN := Lib.hid hxn
          clear hxn
          go_wp2_with fail
          clear p0 p1 p2 p3 p4 p5
          clear q0 q1 q2 q3 q4 q5
          refine (mput_any X xn xc F1 k'N f'N t'N id' n' A' an' ac' l' w5 hoX.rd (by have := HXN.out; have := HD1.out; omega) ha5' (by omega)).mono ?_
          rintro e w6 ⟨Y, yn, yc, rfl, hoY, hu6⟩
          rw [HE2.out]
          rw [HL2.out] at hoY
          have hb6 := blk_up hu6 hb5
          have hc6 := blk_up hu6 hc5
          have hup6 := hup5.trans hu6
          have ha6 := ha5.up hu6
          have ha6' := ha5'.up hu6
          have hX6 := hoX.rd.up hu6
          have hY6 := hoY.rd
          have hyc := own_cap hoY
          have hyn := hY6.blen
          rw [List.length_append, ← HXN.out] at hyn
          have hF1 : (F1 ++ F2).take xn = F1 := by rw [HXN.out, List.take_left]
          have hF2 : (F1 ++ F2).drop xn = F2 := by rw [HXN.out, List.drop_left]
          have hYt := hY6.bto (k := xn) (by omega)
          have hYd := hY6.bfrom (k := xn) (cap := yc) (by omega) hyc
          rw [hF1] at hYt
          rw [hF2] at hYd
          have bx : xn ≤ 60000 := by have := HXN.out; have := HD1.out; omega
          have by9 : yn ≤ 130000 := by have := HD2.out; omega
          have bxy : xn ≤ yn := by omega
          have bxc : xn ≤ yc := by omega
          have i1 : ¬ (yn : Int) < (xn : Int) := by omega
          have i2 : (xn : Int) ≤ (yc : Int) := by omega
          have i1d : decide ((yn : Int) < (xn : Int)) = false := by simp; omega
          have i1n : decide (yn < xn) = false := by simp; omega
          have i3 : (xn : Int) ≤ (yn : Int) := by omega
          clear hb5 hc5 hup5 ha5 ha5' hu6 hoX hoY hyn hF1 hF2
          go_wp2_with fail
          apply Rg.region_up (fun W => Up w6 W) (by kernel_rfl) (by kernel_rfl) (fun w1 h => h)
          · intro QN hQN
            iterate 3 (apply Rg.RK.ok; (· intro vs w1 hS; go_simp; with_reducible rfl); (· rfl); simp only [Act.put, List.setIfInBounds_toArray, List.set_cons_zero, List.set_cons_succ, Nat.reduceAdd])
            iterate 2 (apply Rg.RK.gok (t := 49); (· intro vs w1 hS; go_simp; with_reducible rfl); (· rfl); (· intro vs; rfl); simp only [Act.put, List.setIfInBounds_toArray, List.set_cons_zero, List.set_cons_succ, Nat.reduceAdd])
            iterate 2 (apply Rg.RK.ok; (· intro vs w1 hS; go_simp; with_reducible rfl); (· rfl); simp only [Act.put, List.setIfInBounds_toArray, List.set_cons_zero, List.set_cons_succ, Nat.reduceAdd])
            iterate 5 (apply Rg.RK.gok (t := 53); (· intro vs w1 hS; go_simp; with_reducible rfl); (· rfl); (· intro vs; rfl); simp only [Act.put, List.setIfInBounds_toArray, List.set_cons_zero, List.set_cons_succ, Nat.reduceAdd])
            iterate 2 (apply Rg.RK.ok; (· intro vs w1 hS; go_simp; with_reducible rfl); (· rfl); simp only [Act.put, List.setIfInBounds_toArray, List.set_cons_zero, List.set_cons_succ, Nat.reduceAdd])
            iterate 4 (apply Rg.RK.gok (t := 60); (· intro vs w1 hS; go_simp; with_reducible rfl); (· rfl); (· intro vs; rfl); simp only [Act.put, List.setIfInBounds_toArray, List.set_cons_zero, List.set_cons_succ, Nat.reduceAdd])
            apply Rg.RK.gok (t := 60) (v := .string (tx (F1)))
            · intro vs w1 hS
              exact exec_str rfl rfl (hYt.up hS)
            · rfl
            · intro vs; rfl
            simp only [Act.put, List.setIfInBounds_toArray, List.set_cons_zero, List.set_cons_succ, Nat.reduceAdd]
            iterate 1 (apply Rg.RK.gok (t := 60); (· intro vs w1 hS; go_simp; with_reducible rfl); (· rfl); (· intro vs; rfl); simp only [Act.put, List.setIfInBounds_toArray, List.set_cons_zero, List.set_cons_succ, Nat.reduceAdd])
            apply Rg.RK.gok (t := 60) (v := .string (tx (F1)))
            · intro vs w1 hS
              exact exec_str rfl rfl (hX6.up hS)
            · rfl
            · intro vs; rfl
            simp only [Act.put, List.setIfInBounds_toArray, List.set_cons_zero, List.set_cons_succ, Nat.reduceAdd]
            iterate 1 (apply Rg.RK.gok (t := 60); (· intro vs w1 hS; go_simp; with_reducible rfl); (· rfl); (· intro vs; rfl); simp only [Act.put, List.setIfInBounds_toArray, List.set_cons_zero, List.set_cons_succ, Nat.reduceAdd])
            iterate 1 (apply Rg.RK.ok; (· intro vs w1 hS; go_simp; with_reducible rfl); (· rfl); simp only [Act.put, List.setIfInBounds_toArray, List.set_cons_zero, List.set_cons_succ, Nat.reduceAdd])
            apply Rg.RK.fin []
            intro vs w1 hK hS _
            refine hQN.out _ _ ?_
            clear hQN
            have hu7 := keeps_up hK
            have hb7 := blk_up hu7 hb6
            have hc7 := blk_up hu7 hc6
            have hup7 := hup6.trans hu7
            have ha7 := ha6.up hu7
            have ha7' := ha6'.up hu7
            have hYt7 := hYt.up hu7
            have hYd7 := hYd.up hu7
            have hY7 := hY6.up hu7
            clear hb6 hc6 hup6 ha6 ha6' hYt hYd hX6 hu7 hS hK hY6
            go_wp2_with fail
            have CUT9 : ∀ W, (Instr.slice 28 (.slice Y yn yc) (some (.int .i64 (xn : Int))) none none).run Try.prog W = .ok (.slice (cutA Y yc xn 1) (yn - xn) (yc - xn)) W := fun W => cut_from_b W Y yn yc .i64 (xn : Int) (by omega) i3
            refine (mread_any Y xn yc F1 _ hYt7 (by omega) (by omega)).mono ?_
            rintro e w8 ⟨P, pn, pc, rfl, hP, hpc, hu8⟩
            rw [HR1.out] at hP ⊢
            (try dsimp only at hP ⊢)
            have hu9 : Up w8 (w8.alloc (.cells #[.int .i64 (kN : Int), .int .i64 (fN : Int), .int .i64 (tN : Int), .int .u64 (id : Int), .int .u64 (n : Int), .slice P pn pc] 25)) := (Up.refl w8).alloc _
            have hp9 : (w8.alloc (.cells #[.int .i64 (kN : Int), .int .i64 (fN : Int), .int .i64 (tN : Int), .int .u64 (id : Int), .int .u64 (n : Int), .slice P pn pc] 25)).heap[w8.heap.size]? = some (.cells #[.int .i64 (kN : Int), .int .i64 (fN : Int), .int .i64 (tN : Int), .int .u64 (id : Int), .int .u64 (n : Int), .slice P pn pc] 25 (0, 0)) := heap_alloc_new w8 _
            have hu89 := hu8.trans hu9
            have hb9 := blk_up hu89 hb7
            have hc9 := blk_up hu89 hc7
            have hup9 := hup7.trans hu89
            have ha9 := ha7.up hu89
            have ha9' := ha7'.up hu89
            have hYd9 := hYd7.up hu89
            have hY9 := hY7.up hu89
            have hP9 := hP.up hu9
            clear hb7 hc7 hup7 ha7 ha7' hYd7 hYt7 hY7 hP hu8 hu9 hu89
            go_wp2_with fail
            generalize w8.alloc (.cells #[.int .i64 (kN : Int), .int .i64 (fN : Int), .int .i64 (tN : Int), .int .u64 (id : Int), .int .u64 (n : Int), .slice P pn pc] 25) = w9 at *
            generalize w8.heap.size = gp at *
            refine (mread_any (cutA Y yc xn 1) (yn - xn) (yc - xn) F2 w9 hYd9 (by omega) (by omega)).mono ?_
            rintro e w10 ⟨Q, qn, qc, rfl, hQ, hqc, hu10⟩
            rw [HR2.out] at hQ ⊢
            (try dsimp only at hQ ⊢)
            have hu11 : Up w10 (w10.alloc (.cells #[.int .i64 (k'N : Int), .int .i64 (f'N : Int), .int .i64 (t'N : Int), .int .u64 (id' : Int), .int .u64 (n' : Int), .slice Q qn qc] 25)) := (Up.refl w10).alloc _
            have hq11 : (w10.alloc (.cells #[.int .i64 (k'N : Int), .int .i64 (f'N : Int), .int .i64 (t'N : Int), .int .u64 (id' : Int), .int .u64 (n' : Int), .slice Q qn qc] 25)).heap[w10.heap.size]? = some (.cells #[.int .i64 (k'N : Int), .int .i64 (f'N : Int), .int .i64 (t'N : Int), .int .u64 (id' : Int), .int .u64 (n' : Int), .slice Q qn qc] 25 (0, 0)) := heap_alloc_new w10 _
            have hu89 := hu10.trans hu11
            have hb11 := blk_up hu89 hb9
            have hc11 := blk_up hu89 hc9
            have hp11 := blk_up hu89 hp9
            have hup11 := hup9.trans hu89
            have ha11 := ha9.up hu89
            have ha11' := ha9'.up hu89
            have hY11 := hY9.up hu89
            have hP11 := hP9.up hu89
            have hQ11 := hQ.up hu11
            clear hb9 hc9 hup9 ha9 ha9' hYd9 hY9 hQ hP9 hp9 hu10 hu11 hu89 CUT9
            go_wp2_with fail
            generalize w10.alloc (.cells #[.int .i64 (k'N : Int), .int .i64 (f'N : Int), .int .i64 (t'N : Int), .int .u64 (id' : Int), .int .u64 (n' : Int), .slice Q qn qc] 25) = w11 at *
            generalize w10.heap.size = gq at *
            refine (mread_any Y yn yc (F1 ++ F2) w11 hY11 (by omega) hyc).mono ?_
            rintro e w12 ⟨R, rn, rc, rfl, -, -, hu12⟩
            rw [HR3.out]
            (try dsimp only [mt0])
            have hu13 : Up w12 (w12.alloc (.cells #[.int .i64 0, .int .i64 0, .int .i64 0, .int .u64 0, .int .u64 0, .slice R rn rc] 25)) := (Up.refl w12).alloc _
            have hu89 := hu12.trans hu13
            have hb13 := blk_up hu89 hb11
            have hc13 := blk_up hu89 hc11
            have hp13 := blk_up hu89 hp11
            have hq13 := blk_up hu89 hq11
            have hup13 := hup11.trans hu89
            have ha13 := ha11.up hu89
            have ha13' := ha11'.up hu89
            have hP13 := hP11.up hu89
            have hQ13 := hQ11.up hu89
            have l1 := hP11.ilen
            have l2 := hQ11.ilen
            have l3 := ha11.ilen
            have l4 := ha11'.ilen
            have b1 : pn ≤ 1099511627776 := by omega
            have b2 : qn ≤ 1099511627776 := by omega
            clear l1 l2 l3 l4 hb11 hc11 hp11 hq11 hup11 ha11 ha11' hP11 hQ11 hY11 hu12 hu13 hu89
            have p0 := blk_cell hp13 0
            have p1 := blk_cell hp13 1
            have p2 := blk_cell hp13 2
            have p3 := blk_cell hp13 3
            have p4 := blk_cell hp13 4
            have p5 := blk_cell hp13 5
            have q0 := blk_cell hb13 0
            have q1 := blk_cell hb13 1
            have q2 := blk_cell hb13 2
            have q3 := blk_cell hb13 3
            have q4 := blk_cell hb13 4
            have q5 := blk_cell hb13 5
            go_wp2_with fail
            clear p0 p1 p2 p3 p4 p5
            clear q0 q1 q2 q3 q4 q5
            generalize w12.alloc (.cells #[.int .i64 0, .int .i64 0, .int .i64 0, .int .u64 0, .int .u64 0, .slice R rn rc] 25) = w13 at *
            refine (msame_any (kN : Int) (fN : Int) (tN : Int) id n P pn pc l kN fN tN id n A an ac l w13 hP13 ha13 b1 (by omega)).mono ?_
            rintro e w14 ⟨rfl, hu14⟩
            rw [HS1.out]
            have hq14 := blk_up hu14 hq13
            have hc14 := blk_up hu14 hc13
            have hQ14 := hQ13.up hu14
            have ha14' := ha13'.up hu14
            have hup14 := hup13.trans hu14
            have p0 := blk_cell hq14 0
            have p1 := blk_cell hq14 1
            have p2 := blk_cell hq14 2
            have p3 := blk_cell hq14 3
            have p4 := blk_cell hq14 4
            have p5 := blk_cell hq14 5
            have q0 := blk_cell hc14 0
            have q1 := blk_cell hc14 1
            have q2 := blk_cell hc14 2
            have q3 := blk_cell hc14 3
            have q4 := blk_cell hc14 4
            have q5 := blk_cell hc14 5
            clear hb13 hc13 hp13 hq13 hup13 ha13 ha13' hP13 hQ13 hu14
            go_wp2_with fail
            clear p0 p1 p2 p3 p4 p5
            clear q0 q1 q2 q3 q4 q5
            refine (msame_any (k'N : Int) (f'N : Int) (t'N : Int) id' n' Q qn qc l' k'N f'N t'N id' n' A' an' ac' l' w14 hQ14 ha14' b2 (by omega)).mono ?_
            rintro e w15 ⟨rfl, hu15⟩
            rw [HS2.out]
            go_wp2_with fail
            refine (awake20_any w15).mono ?_
            rintro e w16 ⟨rfl, hu16⟩
            go_wp2_with fail
            go_ret
            exact ⟨rfl, (hup14.trans hu15).trans hu16⟩
          · kernel_rfl
end Go.Proofs.Ytnbdijifhimogaa.msgRows
