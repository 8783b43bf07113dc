/-
  The walk of SameView of clepsydraref12.
-/
import Derived.Test.YtokcaoaclheiiaaEditW4
namespace Go.Proofs.Ytokcaoaclheiiaa
open Go.RowKit
set_option linter.unusedVariables false
set_option linter.unusedSimpArgs false

def sameV (lg : Int) (l : List Fl) (f ce at_ le : Nat) (lg' : Int) (l' : List Fl) (f' ce' at' le' : Nat) : Bool := decide (lg = lg' ∧ f = f' ∧ ce = ce' ∧ at_ = at' ∧ le = le' ∧ l = l')

set_option maxRecDepth 100000 in
set_option maxHeartbeats 1600000 in
theorem sameView_any (lg : Int) (A : Option Addr) (n c : Nat) (l : List Fl) (f ce at_ le : Nat) (lg' : Int) (A' : Option Addr) (n' c' : Nat) (l' : List Fl) (f' ce' at' le' : Nat) (w : World)
    (hr : Rd w w.heap.size 2 A n (fvs l)) (hr' : Rd w w.heap.size 2 A' n' (fvs l')) (hn : n ≤ 1099511627776) (hn' : n' ≤ 1099511627776) :
    Calls Try.prog 10 #[.agg #[.int .i64 lg, .slice A n c, .int .u64 (f : Int), .int .u64 (ce : Int), .int .u64 (at_ : Int), .int .u64 (le : Int)], .agg #[.int .i64 lg', .slice A' n' c', .int .u64 (f' : Int), .int .u64 (ce' : Int), .int .u64 (at' : Int), .int .u64 (le' : Int)]] w
      fun e w' => e = .returned (.bool (sameV lg l f ce at_ le lg' l' f' ce' at' le')) ∧ Up w w' := by
  have hv : sameV lg l f ce at_ le lg' l' f' ce' at' le' = decide (lg = lg' ∧ f = f' ∧ ce = ce' ∧ at_ = at' ∧ le = le' ∧ l = l') := rfl
  have HV := Lib.hid hv
  have HL := Lib.hid hr.flen
  have HL' := Lib.hid hr'.flen
  clear hv
  obtain ⟨w2, hw2⟩ : ∃ w2, w2 = (w.alloc (.cells #[.int .i64 lg, .slice A n c, .int .u64 (f : Int), .int .u64 (ce : Int), .int .u64 (at_ : Int), .int .u64 (le : Int)] 27)).alloc (.cells #[.int .i64 lg', .slice A' n' c', .int .u64 (f' : Int), .int .u64 (ce' : Int), .int .u64 (at' : Int), .int .u64 (le' : Int)] 27) := ⟨_, rfl⟩
  have hup : Up w w2 := by rw [hw2]; exact ((Up.refl w).alloc _).alloc _
  have h1 : w2.heap[w.heap.size]? = some (.cells #[.int .i64 lg, .slice A n c, .int .u64 (f : Int), .int .u64 (ce : Int), .int .u64 (at_ : Int), .int .u64 (le : Int)] 27 (0, 0)) := by
    rw [hw2, Below.heap_alloc _ _ _ (by simp)]; exact heap_alloc_new w _
  have h2 : w2.heap[w.heap.size + 1]? = some (.cells #[.int .i64 lg', .slice A' n' c', .int .u64 (f' : Int), .int .u64 (ce' : Int), .int .u64 (at' : Int), .int .u64 (le' : Int)] 27 (0, 0)) := by
    rw [hw2]
    have h := heap_alloc_new (w.alloc (.cells #[.int .i64 lg, .slice A n c, .int .u64 (f : Int), .int .u64 (ce : Int), .int .u64 (at_ : Int), .int .u64 (le : Int)] 27)) (.cells #[.int .i64 lg', .slice A' n' c', .int .u64 (f' : Int), .int .u64 (ce' : Int), .int .u64 (at' : Int), .int .u64 (le' : Int)] 27)
    rwa [World.size_alloc] at h
  have HW := Lib.hid hw2
  clear hw2
  by_cases k1 : lg = lg'
  · by_cases k2 : f = f'
    · by_cases k3 : ce = ce'
      · by_cases k4 : at_ = at'
        · by_cases k5 : le = le'
          · by_cases k6 : n = n'
            · subst k1; subst k2; subst k3; subst k4; subst k5; subst k6
              go_enter Try.func10, Try.ntmps10
              go_wp2_with fail
              rw [← HW.out]
              have hr2 := hr.up hup
              have hr2' := hr'.up hup
              generalize w.heap.size + 1 = g2 at *
              generalize w.heap.size = g1 at h1 ⊢
              clear hr hr'
              go_loopw [5] (fun i wr => ∃ k : Nat, i = .int .i64 (k : Int) ∧ k ≤ n ∧ Hid (l.take k = l'.take k) ∧ Up w2 wr) (fun i _ => n - (intOf i).toNat)
              case atStart => exact ⟨0, rfl, by omega, rfl, Up.refl _⟩
              case round =>
                obtain ⟨k, rfl, hk, ht, hu⟩ := hrel
                have e1 := (hu.block _ (Array.getElem?_eq_some_iff.1 h1).1).trans h1
                have e2 := (hu.block _ (Array.getElem?_eq_some_iff.1 h2).1).trans h2
                by_cases hlt : k < n
                · obtain ⟨b, o, x, rfl, hb, hx, c0, c1⟩ := (hr2.up hu).file_at hlt
                  obtain ⟨b', o', x', rfl, hb', hx', d0, d1⟩ := (hr2'.up hu).file_at hlt
                  obtain ⟨x1, x2⟩ := x
                  obtain ⟨y1, y2⟩ := x'
                  simp only [] at c0 c1 d0 d1
                  have hS : ∀ W, Up wr W → Up wr W ∧ W.cell? ⟨g1, 1, none⟩ = some (.slice (some ⟨b, o, none⟩) n c) ∧ W.cell? ⟨g2, 1, none⟩ = some (.slice (some ⟨b', o', none⟩) n c') ∧ W.cell? ⟨b, o + k * 2, none⟩ = some (.int .i64 x1) ∧ W.cell? ⟨b, o + k * 2 + 1, none⟩ = some (.int .i64 x2) ∧ W.cell? ⟨b', o' + k * 2, none⟩ = some (.int .i64 y1) ∧ W.cell? ⟨b', o' + k * 2 + 1, none⟩ = some (.int .i64 y2) := fun W h =>
                    ⟨h, (h.cell (p := ⟨g1, 1, none⟩) (Array.getElem?_eq_some_iff.1 e1).1).trans (blk_cell e1 1), (h.cell (p := ⟨g2, 1, none⟩) (Array.getElem?_eq_some_iff.1 e2).1).trans (blk_cell e2 1), (h.cell (p := ⟨b, o + k * 2, none⟩) hb).trans c0, (h.cell (p := ⟨b, o + k * 2 + 1, none⟩) hb).trans c1, (h.cell (p := ⟨b', o' + k * 2, none⟩) hb').trans d0, (h.cell (p := ⟨b', o' + k * 2 + 1, none⟩) hb').trans d1⟩
                  have hkl : k < l.length := by have := HL.out; omega
                  have hkl' : k < l'.length := by have := HL'.out; omega
                  rw [List.getElem?_eq_getElem hkl] at hx
                  rw [List.getElem?_eq_getElem hkl'] at hx'
                  injection hx with hx
                  injection hx' with hx'
                  have HX := Lib.hid hx
                  have HX' := Lib.hid hx'
                  have q1 := blk_cell e1 1
                  have hki : (k : Int) < (n : Int) := by omega
                  have hkb : decide ((k : Int) < (n : Int)) = true := by simp; omega
                  clear hx hx' c0 c1 d0 d1
                  by_cases m1 : x1 = y1
                  · by_cases m2 : x2 = y2
                    · subst m1; subst m2
                      go_wp2_with fail
                      clear q1
                      apply Rg.region_up _ (by kernel_rfl) (by kernel_rfl) hS
                      · intro QN hQN
                        iterate 11 (apply Rg.RK.ok; (· intro vs w1 hS; go_simp; with_reducible rfl); (· rfl); simp only [Act.put, List.setIfInBounds_toArray, List.set_cons_zero, List.set_cons_succ, Nat.reduceAdd])
                        apply Rg.RK.fin []
                        intro vs w1 hK hS _
                        refine hQN.out _ _ ?_
                        clear hQN
                        go_wp2_with fail
                        go_roundw
                        case rel =>
                          refine ⟨k + 1, by go_num, by omega, ?_, hu.trans (keeps_up hK)⟩
                          show _ = _
                          rw [List.take_succ_eq_append_getElem hkl, List.take_succ_eq_append_getElem hkl', ht.out, HX.out, HX'.out]
                        case measure => simp [intOf]; omega
                      · kernel_rfl
                    · have hne : l ≠ l' := by
                        intro e
                        subst e
                        have h := HX.out.symm.trans HX'.out
                        injection h with h1 h2
                        contradiction
                      have HNE := Lib.hid hne
                      clear hne
                      go_wp2_with fail
                      clear q1
                      apply Rg.region_up _ (by kernel_rfl) (by kernel_rfl) hS
                      · intro QN hQN
                        iterate 11 (apply Rg.RK.ok; (· intro vs w1 hS; go_simp; with_reducible rfl); (· rfl); simp only [Act.put, List.setIfInBounds_toArray, List.set_cons_zero, List.set_cons_succ, Nat.reduceAdd])
                        apply Rg.RK.fin []
                        intro vs w1 hK hS _
                        refine hQN.out _ _ ?_
                        clear hQN
                        go_wp2_with fail
                        go_ret
                        refine ⟨retb ?_, hup.trans (hu.trans (keeps_up hK))⟩
                        rw [HV.out]
                        have := HNE.out
                        simp [this]
                      · kernel_rfl
                  · have hne : l ≠ l' := by
                      intro e
                      subst e
                      have h := HX.out.symm.trans HX'.out
                      injection h with h1 h2
                      contradiction
                    have HNE := Lib.hid hne
                    clear hne
                    go_wp2_with fail
                    clear q1
                    apply Rg.region_up _ (by kernel_rfl) (by kernel_rfl) hS
                    · intro QN hQN
                      iterate 11 (apply Rg.RK.ok; (· intro vs w1 hS; go_simp; with_reducible rfl); (· rfl); simp only [Act.put, List.setIfInBounds_toArray, List.set_cons_zero, List.set_cons_succ, Nat.reduceAdd])
                      apply Rg.RK.fin []
                      intro vs w1 hK hS _
                      refine hQN.out _ _ ?_
                      clear hQN
                      go_wp2_with fail
                      go_ret
                      refine ⟨retb ?_, hup.trans (hu.trans (keeps_up hK))⟩
                      rw [HV.out]
                      have := HNE.out
                      simp [this]
                    · kernel_rfl
                · have q1 := blk_cell e1 1
                  go_wp2_with fail
                  go_ret
                  refine ⟨retb ?_, hup.trans hu⟩
                  have hkn : k = n := by omega
                  have hll : l = l' := by
                    have h := ht.out
                    rwa [List.take_of_length_le (by have := HL.out; omega), List.take_of_length_le (by have := HL'.out; omega)] at h
                  rw [HV.out, hll]
                  simp
            · have hno : sameV lg l f ce at_ le lg' l' f' ce' at' le' = false := by
                rw [HV.out, decide_eq_false_iff_not]
                rintro ⟨z1, z2, z3, z4, z5, z6⟩
                first | contradiction | (apply k6; rw [HL.out, HL'.out, z6])
              have HNO := Lib.hid hno
              clear hno
              (try subst k1)
              (try subst k2)
              (try subst k3)
              (try subst k4)
              (try subst k5)
              go_enter Try.func10, Try.ntmps10
              go_wp2_with fail
              rw [← HW.out]
              go_ret
              refine ⟨retb ?_, hup⟩
              rw [HNO.out]
          · have hno : sameV lg l f ce at_ le lg' l' f' ce' at' le' = false := by
              rw [HV.out, decide_eq_false_iff_not]
              rintro ⟨z1, z2, z3, z4, z5, z6⟩
              first | contradiction | (apply k6; rw [HL.out, HL'.out, z6])
            have HNO := Lib.hid hno
            clear hno
            (try subst k1)
            (try subst k2)
            (try subst k3)
            (try subst k4)
            (try subst k5)
            go_enter Try.func10, Try.ntmps10
            go_wp2_with fail
            rw [← HW.out]
            go_ret
            refine ⟨retb ?_, hup⟩
            rw [HNO.out]
        · have hno : sameV lg l f ce at_ le lg' l' f' ce' at' le' = false := by
            rw [HV.out, decide_eq_false_iff_not]
            rintro ⟨z1, z2, z3, z4, z5, z6⟩
            first | contradiction | (apply k6; rw [HL.out, HL'.out, z6])
          have HNO := Lib.hid hno
          clear hno
          (try subst k1)
          (try subst k2)
          (try subst k3)
          (try subst k4)
          (try subst k5)
          go_enter Try.func10, Try.ntmps10
          go_wp2_with fail
          rw [← HW.out]
          go_ret
          refine ⟨retb ?_, hup⟩
          rw [HNO.out]
      · have hno : sameV lg l f ce at_ le lg' l' f' ce' at' le' = false := by
          rw [HV.out, decide_eq_false_iff_not]
          rintro ⟨z1, z2, z3, z4, z5, z6⟩
          first | contradiction | (apply k6; rw [HL.out, HL'.out, z6])
        have HNO := Lib.hid hno
        clear hno
        (try subst k1)
        (try subst k2)
        (try subst k3)
        (try subst k4)
        (try subst k5)
        go_enter Try.func10, Try.ntmps10
        go_wp2_with fail
        rw [← HW.out]
        go_ret
        refine ⟨retb ?_, hup⟩
        rw [HNO.out]
    · have hno : sameV lg l f ce at_ le lg' l' f' ce' at' le' = false := by
        rw [HV.out, decide_eq_false_iff_not]
        rintro ⟨z1, z2, z3, z4, z5, z6⟩
        first | contradiction | (apply k6; rw [HL.out, HL'.out, z6])
      have HNO := Lib.hid hno
      clear hno
      (try subst k1)
      (try subst k2)
      (try subst k3)
      (try subst k4)
      (try subst k5)
      go_enter Try.func10, Try.ntmps10
      go_wp2_with fail
      rw [← HW.out]
      go_ret
      refine ⟨retb ?_, hup⟩
      rw [HNO.out]
  · have hno : sameV lg l f ce at_ le lg' l' f' ce' at' le' = false := by
      rw [HV.out, decide_eq_false_iff_not]
      rintro ⟨z1, z2, z3, z4, z5, z6⟩
      first | contradiction | (apply k6; rw [HL.out, HL'.out, z6])
    have HNO := Lib.hid hno
    clear hno
    (try subst k1)
    (try subst k2)
    (try subst k3)
    (try subst k4)
    (try subst k5)
    go_enter Try.func10, Try.ntmps10
    go_wp2_with fail
    rw [← HW.out]
    go_ret
    refine ⟨retb ?_, hup⟩
    rw [HNO.out]
end Go.Proofs.Ytokcaoaclheiiaa
