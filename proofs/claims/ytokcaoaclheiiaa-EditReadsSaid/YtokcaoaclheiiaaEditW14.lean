/-
  The walk of law15's same: two edits.
-/
import Derived.Test.YtokcaoaclheiiaaEditW13
namespace Go.Proofs.Ytokcaoaclheiiaa
open Go.RowKit
set_option linter.unusedVariables false
set_option linter.unusedSimpArgs false

def sameE (ds : List Int) (add : List Fl) (lg : Int) (f ce at_ le : Nat) (ds' : List Int) (add' : List Fl) (lg' : Int) (f' ce' at' le' : Nat) : Bool := decide (lg = lg' ∧ f = f' ∧ ce = ce' ∧ at_ = at' ∧ le = le' ∧ ds = ds' ∧ add = add')
theorem Rd.dlen {w : World} {B n : Nat} {A : Option Addr} {ds : List Int} (h : Rd w B 1 A n (nmv ds)) : n = ds.length := by have := h.1; rw [nmv_len] at this; omega
theorem Rd.drop_at {w : World} {B n k : Nat} {A : Option Addr} {ds : List Int} (h : Rd w B 1 A n (nmv ds)) (hk : k < n) : ∃ b o x, A = some ⟨b, o, none⟩ ∧ b < B ∧ ds[k]? = some x ∧ w.cell? ⟨b, o + k, none⟩ = some (.int .i64 x) := by
  have hl := h.dlen
  obtain ⟨b, o, rfl, hb, hc⟩ := h.2 (by omega)
  have hkl : k < ds.length := by omega
  refine ⟨b, o, ds[k], rfl, hb, List.getElem?_eq_getElem hkl, ?_⟩
  exact hc k (.int .i64 ds[k]) (by simp [nmv, hkl])
theorem take_stepE {α : Type} {l l' : List α} {k : Nat} {x : α} (h : l.take k = l'.take k) (h1 : l[k]? = some x) (h2 : l'[k]? = some x) : l.take (k + 1) = l'.take (k + 1) := by
  rw [List.take_add_one, List.take_add_one, h, h1, h2]

set_option maxRecDepth 100000 in
set_option maxHeartbeats 8000000 in
theorem same15_any (D : Option Addr) (dn dc : Nat) (ds : List Int) (A : Option Addr) (an ac : Nat) (add : List Fl) (lg : Int) (f ce at_ le : Nat) (D' : Option Addr) (dn' dc' : Nat) (ds' : List Int) (A' : Option Addr) (an' ac' : Nat) (add' : List Fl) (lg' : Int) (f' ce' at' le' : Nat) (w : World)
    (hd : Rd w w.heap.size 1 D dn (nmv ds)) (hdn : dn ≤ 1099511627776) (ha : Rd w w.heap.size 2 A an (fvs add)) (han : an ≤ 1099511627776) (hd' : Rd w w.heap.size 1 D' dn' (nmv ds')) (hdn' : dn' ≤ 1099511627776) (ha' : Rd w w.heap.size 2 A' an' (fvs add')) (han' : an' ≤ 1099511627776) :
    Calls Try.prog 20 #[.agg #[.slice D dn dc, .slice A an ac, .int .i64 lg, .int .u64 (f : Int), .int .u64 (ce : Int), .int .u64 (at_ : Int), .int .u64 (le : Int)], .agg #[.slice D' dn' dc', .slice A' an' ac', .int .i64 lg', .int .u64 (f' : Int), .int .u64 (ce' : Int), .int .u64 (at' : Int), .int .u64 (le' : Int)]] w
      fun e w' => e = .returned (.bool (sameE ds add lg f ce at_ le ds' add' lg' f' ce' at' le')) ∧ Up w w' := by
  have hv : sameE ds add lg f ce at_ le ds' add' lg' f' ce' at' le' = decide (lg = lg' ∧ f = f' ∧ ce = ce' ∧ at_ = at' ∧ le = le' ∧ ds = ds' ∧ add = add') := rfl
  have HV := Lib.hid hv
  have HL := Lib.hid ha.flen
  have HL' := Lib.hid ha'.flen
  have HD := Lib.hid hd.dlen
  have HD' := Lib.hid hd'.dlen
  clear hv
  obtain ⟨w2, hw2⟩ : ∃ w2, w2 = (w.alloc (.cells #[.slice D dn dc, .slice A an ac, .int .i64 lg, .int .u64 (f : Int), .int .u64 (ce : Int), .int .u64 (at_ : Int), .int .u64 (le : Int)] 32)).alloc (.cells #[.slice D' dn' dc', .slice A' an' ac', .int .i64 lg', .int .u64 (f' : Int), .int .u64 (ce' : Int), .int .u64 (at' : Int), .int .u64 (le' : Int)] 32) := ⟨_, rfl⟩
  have hup : Up w w2 := by rw [hw2]; exact ((Up.refl w).alloc _).alloc _
  have h1 : w2.heap[w.heap.size]? = some (.cells #[.slice D dn dc, .slice A an ac, .int .i64 lg, .int .u64 (f : Int), .int .u64 (ce : Int), .int .u64 (at_ : Int), .int .u64 (le : Int)] 32 (0, 0)) := by
    rw [hw2, Below.heap_alloc _ _ _ (by simp)]; exact heap_alloc_new w _
  have h2 : w2.heap[w.heap.size + 1]? = some (.cells #[.slice D' dn' dc', .slice A' an' ac', .int .i64 lg', .int .u64 (f' : Int), .int .u64 (ce' : Int), .int .u64 (at' : Int), .int .u64 (le' : Int)] 32 (0, 0)) := by
    rw [hw2]
    have h := heap_alloc_new (w.alloc (.cells #[.slice D dn dc, .slice A an ac, .int .i64 lg, .int .u64 (f : Int), .int .u64 (ce : Int), .int .u64 (at_ : Int), .int .u64 (le : Int)] 32)) (.cells #[.slice D' dn' dc', .slice A' an' ac', .int .i64 lg', .int .u64 (f' : Int), .int .u64 (ce' : Int), .int .u64 (at' : Int), .int .u64 (le' : Int)] 32)
    rwa [World.size_alloc] at h
  have HW := Lib.hid hw2
  clear hw2
  by_cases k1 : lg = lg'
  · by_cases k2 : f = f'
    · by_cases k3 : ce = ce'
      · by_cases k4 : at_ = at'
        · by_cases k5 : le = le'
          · by_cases k6 : dn = dn'
            · by_cases k7 : an = an'
              · subst k1; subst k2; subst k3; subst k4; subst k5; subst k6; subst k7
                go_enter Try.func20, Try.ntmps20
                go_wp2_with fail
                rw [← HW.out]
                have hd2 := hd.up hup
                have hd2' := hd'.up hup
                have ha2 := ha.up hup
                have ha2' := ha'.up hup
                generalize w.heap.size + 1 = g2 at *
                generalize w.heap.size = g1 at h1 ⊢
                clear hd hd' ha ha'
                go_loopw [5] (fun i wr => ∃ k : Nat, i = .int .i64 (k : Int) ∧ k ≤ dn ∧ Hid (ds.take k = ds'.take k) ∧ Up w2 wr) (fun i _ => dn - (intOf i).toNat)
                case atStart => exact ⟨0, rfl, by omega, rfl, Up.refl _⟩
                case round =>
                  obtain ⟨k, rfl, hk, ht, hu⟩ := hrel
                  have e1 := (hu.block _ (Array.getElem?_eq_some_iff.1 h1).1).trans h1
                  have e2 := (hu.block _ (Array.getElem?_eq_some_iff.1 h2).1).trans h2
                  by_cases hlt : k < dn
                  · obtain ⟨b, o, x, rfl, hb, hx, c0⟩ := (hd2.up hu).drop_at hlt
                    obtain ⟨b', o', x', rfl, hb', hx', d0⟩ := (hd2'.up hu).drop_at hlt
                    have hS : ∀ W, Up wr W → Up wr W ∧ W.cell? ⟨g1, 0, none⟩ = some (.slice (some ⟨b, o, none⟩) dn dc) ∧ W.cell? ⟨g2, 0, none⟩ = some (.slice (some ⟨b', o', none⟩) dn dc') ∧ W.cell? ⟨b, o + k, none⟩ = some (.int .i64 x) ∧ W.cell? ⟨b', o' + k, none⟩ = some (.int .i64 x') := fun W h =>
                      ⟨h, (h.cell (p := ⟨g1, 0, none⟩) (Array.getElem?_eq_some_iff.1 e1).1).trans (blk_cell e1 0), (h.cell (p := ⟨g2, 0, none⟩) (Array.getElem?_eq_some_iff.1 e2).1).trans (blk_cell e2 0), (h.cell (p := ⟨b, o + k, none⟩) hb).trans c0, (h.cell (p := ⟨b', o' + k, none⟩) hb').trans d0⟩
                    have HX := Lib.hid hx
                    have HX' := Lib.hid hx'
                    have q1 := blk_cell e1 0
                    have hki : (k : Int) < (dn : Int) := by omega
                    have hkb : decide ((k : Int) < (dn : Int)) = true := by simp; omega
                    clear hx hx' c0 d0
                    by_cases m1 : x = x'
                    · subst m1
                      go_wp2_with fail
                      clear q1
                      apply Rg.region_up _ (by kernel_rfl) (by kernel_rfl) hS
                      · intro QN hQN
                        iterate 11 (apply Rg.RK.ok; (· intro vs w1 hS; go_simp; with_reducible rfl); (· rfl); simp only [Act.put, List.setIfInBounds_toArray, List.set_cons_zero, List.set_cons_succ, Nat.reduceAdd])
                        apply Rg.RK.fin []
                        intro vs w1 hK hS _
                        refine hQN.out _ _ ?_
                        clear hQN
                        go_wp2_with fail
                        go_roundw
                        case rel =>
                          exact ⟨k + 1, by go_num, by omega, take_stepE ht.out HX.out HX'.out, hu.trans (keeps_up hK)⟩
                        case measure => simp [intOf]; omega
                      · kernel_rfl
                    · have hne : ds ≠ ds' := by
                        intro e
                        subst e
                        have h := HX.out.symm.trans HX'.out
                        injection h with h1
                        contradiction
                      have HNE := Lib.hid hne
                      clear hne
                      go_wp2_with fail
                      clear q1
                      apply Rg.region_up _ (by kernel_rfl) (by kernel_rfl) hS
                      · intro QN hQN
                        iterate 11 (apply Rg.RK.ok; (· intro vs w1 hS; go_simp; with_reducible rfl); (· rfl); simp only [Act.put, List.setIfInBounds_toArray, List.set_cons_zero, List.set_cons_succ, Nat.reduceAdd])
                        apply Rg.RK.fin []
                        intro vs w1 hK hS _
                        refine hQN.out _ _ ?_
                        clear hQN
                        go_wp2_with fail
                        go_ret
                        refine ⟨retb ?_, (hup.trans hu).trans (keeps_up hK)⟩
                        rw [HV.out]
                        simp [HNE.out]
                      · kernel_rfl
                  · have q1 := blk_cell e1 0
                    have p1 := blk_cell e1 1
                    have hdd : ds = ds' := by
                      have h := ht.out
                      rwa [List.take_of_length_le (by have := HD.out; omega), List.take_of_length_le (by have := HD'.out; omega)] at h
                    have HDD := Lib.hid hdd
                    have hs1 := h1
                    clear hdd ht q1 p1
                    obtain ⟨w3, hw3⟩ : ∃ w3, w3 = wr := ⟨_, rfl⟩
                    subst hw3
                    have q1 := blk_cell e1 0
                    clear h1 h2 hs1
                    go_wp2_with fail
                    clear q1
                    have ha3 := ha2.up hu
                    have ha3' := ha2'.up hu
                    clear ha2 ha2' hd2 hd2'
                    go_loopw [6] (fun i wr => ∃ k : Nat, i = .int .i64 (k : Int) ∧ k ≤ an ∧ Hid (add.take k = add'.take k) ∧ Up w3 wr) (fun i _ => an - (intOf i).toNat)
                    case atStart => exact ⟨0, rfl, by omega, rfl, Up.refl _⟩
                    case round =>
                      obtain ⟨j, rfl, hj, ht2, hu2⟩ := hrel
                      have g1e := (hu2.block _ (Array.getElem?_eq_some_iff.1 e1).1).trans e1
                      have g2e := (hu2.block _ (Array.getElem?_eq_some_iff.1 e2).1).trans e2
                      by_cases hlt2 : j < an
                      · obtain ⟨b, o, x, rfl, hb, hx, c0, c1⟩ := (ha3.up hu2).file_at hlt2
                        obtain ⟨b', o', x', rfl, hb', hx', d0, d1⟩ := (ha3'.up hu2).file_at hlt2
                        obtain ⟨x1, x2⟩ := x
                        obtain ⟨y1, y2⟩ := x'
                        simp only [] at c0 c1 d0 d1
                        have hS : ∀ W, Up wr W → Up wr W ∧ W.cell? ⟨g1, 1, none⟩ = some (.slice (some ⟨b, o, none⟩) an ac) ∧ W.cell? ⟨g2, 1, none⟩ = some (.slice (some ⟨b', o', none⟩) an ac') ∧ W.cell? ⟨b, o + j * 2, none⟩ = some (.int .i64 x1) ∧ W.cell? ⟨b, o + j * 2 + 1, none⟩ = some (.int .i64 x2) ∧ W.cell? ⟨b', o' + j * 2, none⟩ = some (.int .i64 y1) ∧ W.cell? ⟨b', o' + j * 2 + 1, none⟩ = some (.int .i64 y2) := fun W h =>
                          ⟨h, (h.cell (p := ⟨g1, 1, none⟩) (Array.getElem?_eq_some_iff.1 g1e).1).trans (blk_cell g1e 1), (h.cell (p := ⟨g2, 1, none⟩) (Array.getElem?_eq_some_iff.1 g2e).1).trans (blk_cell g2e 1), (h.cell (p := ⟨b, o + j * 2, none⟩) hb).trans c0, (h.cell (p := ⟨b, o + j * 2 + 1, none⟩) hb).trans c1, (h.cell (p := ⟨b', o' + j * 2, none⟩) hb').trans d0, (h.cell (p := ⟨b', o' + j * 2 + 1, none⟩) hb').trans d1⟩
                        have HX := Lib.hid hx
                        have HX' := Lib.hid hx'
                        have q1 := blk_cell g1e 1
                        have hki : (j : Int) < (an : Int) := by omega
                        have hkb : decide ((j : Int) < (an : Int)) = true := by simp; omega
                        clear hx hx' c0 c1 d0 d1
                        by_cases m1 : x1 = y1
                        · by_cases m2 : x2 = y2
                          · subst m1; subst m2
                            go_wp2_with fail
                            clear q1
                            apply Rg.region_up _ (by kernel_rfl) (by kernel_rfl) hS
                            · intro QN hQN
                              iterate 11 (apply Rg.RK.ok; (· intro vs w1 hS; go_simp; with_reducible rfl); (· rfl); simp only [Act.put, List.setIfInBounds_toArray, List.set_cons_zero, List.set_cons_succ, Nat.reduceAdd])
                              apply Rg.RK.fin []
                              intro vs w1 hK hS _
                              refine hQN.out _ _ ?_
                              clear hQN
                              go_wp2_with fail
                              go_roundw
                              case rel =>
                                exact ⟨j + 1, by go_num, by omega, take_stepE ht2.out HX.out HX'.out, hu2.trans (keeps_up hK)⟩
                              case measure => simp [intOf]; omega
                            · kernel_rfl
                          · have hne : add ≠ add' := by
                              intro e
                              subst e
                              have h := HX.out.symm.trans HX'.out
                              injection h with h1
                              injection h1 with h1 h2
                              contradiction
                            have HNE := Lib.hid hne
                            clear hne
                            go_wp2_with fail
                            clear q1
                            apply Rg.region_up _ (by kernel_rfl) (by kernel_rfl) hS
                            · intro QN hQN
                              iterate 11 (apply Rg.RK.ok; (· intro vs w1 hS; go_simp; with_reducible rfl); (· rfl); simp only [Act.put, List.setIfInBounds_toArray, List.set_cons_zero, List.set_cons_succ, Nat.reduceAdd])
                              apply Rg.RK.fin []
                              intro vs w1 hK hS _
                              refine hQN.out _ _ ?_
                              clear hQN
                              go_wp2_with fail
                              go_ret
                              refine ⟨retb ?_, ((hup.trans hu).trans hu2).trans (keeps_up hK)⟩
                              rw [HV.out]
                              simp [HNE.out]
                            · kernel_rfl
                        · have hne : add ≠ add' := by
                            intro e
                            subst e
                            have h := HX.out.symm.trans HX'.out
                            injection h with h1
                            injection h1 with h1 h2
                            contradiction
                          have HNE := Lib.hid hne
                          clear hne
                          go_wp2_with fail
                          clear q1
                          apply Rg.region_up _ (by kernel_rfl) (by kernel_rfl) hS
                          · intro QN hQN
                            iterate 11 (apply Rg.RK.ok; (· intro vs w1 hS; go_simp; with_reducible rfl); (· rfl); simp only [Act.put, List.setIfInBounds_toArray, List.set_cons_zero, List.set_cons_succ, Nat.reduceAdd])
                            apply Rg.RK.fin []
                            intro vs w1 hK hS _
                            refine hQN.out _ _ ?_
                            clear hQN
                            go_wp2_with fail
                            go_ret
                            refine ⟨retb ?_, ((hup.trans hu).trans hu2).trans (keeps_up hK)⟩
                            rw [HV.out]
                            simp [HNE.out]
                          · kernel_rfl
                      · have q1 := blk_cell g1e 1
                        go_wp2_with fail
                        go_ret
                        refine ⟨retb ?_, (hup.trans hu).trans hu2⟩
                        have hll : add = add' := by
                          have h := ht2.out
                          rwa [List.take_of_length_le (by have := HL.out; omega), List.take_of_length_le (by have := HL'.out; omega)] at h
                        rw [HV.out, hll, HDD.out]
                        simp
              · have hno : sameE ds add lg f ce at_ le ds' add' lg' f' ce' at' le' = false := by
                  rw [HV.out, decide_eq_false_iff_not]
                  rintro ⟨z1, z2, z3, z4, z5, z6, z7⟩
                  first | contradiction | (apply k6; rw [HD.out, HD'.out, z6]) | (apply k7; rw [HL.out, HL'.out, z7])
                have HNO := Lib.hid hno
                clear hno
                (try subst k1)
                (try subst k2)
                (try subst k3)
                (try subst k4)
                (try subst k5)
                (try subst k6)
                go_enter Try.func20, Try.ntmps20
                go_wp2_with fail
                rw [← HW.out]
                go_ret
                refine ⟨retb ?_, hup⟩
                exact HNO.out.symm
            · have hno : sameE ds add lg f ce at_ le ds' add' lg' f' ce' at' le' = false := by
                rw [HV.out, decide_eq_false_iff_not]
                rintro ⟨z1, z2, z3, z4, z5, z6, z7⟩
                first | contradiction | (apply k6; rw [HD.out, HD'.out, z6]) | (apply k7; rw [HL.out, HL'.out, z7])
              have HNO := Lib.hid hno
              clear hno
              (try subst k1)
              (try subst k2)
              (try subst k3)
              (try subst k4)
              (try subst k5)
              (try subst k6)
              go_enter Try.func20, Try.ntmps20
              go_wp2_with fail
              rw [← HW.out]
              go_ret
              refine ⟨retb ?_, hup⟩
              exact HNO.out.symm
          · have hno : sameE ds add lg f ce at_ le ds' add' lg' f' ce' at' le' = false := by
              rw [HV.out, decide_eq_false_iff_not]
              rintro ⟨z1, z2, z3, z4, z5, z6, z7⟩
              first | contradiction | (apply k6; rw [HD.out, HD'.out, z6]) | (apply k7; rw [HL.out, HL'.out, z7])
            have HNO := Lib.hid hno
            clear hno
            (try subst k1)
            (try subst k2)
            (try subst k3)
            (try subst k4)
            (try subst k5)
            (try subst k6)
            go_enter Try.func20, Try.ntmps20
            go_wp2_with fail
            rw [← HW.out]
            go_ret
            refine ⟨retb ?_, hup⟩
            exact HNO.out.symm
        · have hno : sameE ds add lg f ce at_ le ds' add' lg' f' ce' at' le' = false := by
            rw [HV.out, decide_eq_false_iff_not]
            rintro ⟨z1, z2, z3, z4, z5, z6, z7⟩
            first | contradiction | (apply k6; rw [HD.out, HD'.out, z6]) | (apply k7; rw [HL.out, HL'.out, z7])
          have HNO := Lib.hid hno
          clear hno
          (try subst k1)
          (try subst k2)
          (try subst k3)
          (try subst k4)
          (try subst k5)
          (try subst k6)
          go_enter Try.func20, Try.ntmps20
          go_wp2_with fail
          rw [← HW.out]
          go_ret
          refine ⟨retb ?_, hup⟩
          exact HNO.out.symm
      · have hno : sameE ds add lg f ce at_ le ds' add' lg' f' ce' at' le' = false := by
          rw [HV.out, decide_eq_false_iff_not]
          rintro ⟨z1, z2, z3, z4, z5, z6, z7⟩
          first | contradiction | (apply k6; rw [HD.out, HD'.out, z6]) | (apply k7; rw [HL.out, HL'.out, z7])
        have HNO := Lib.hid hno
        clear hno
        (try subst k1)
        (try subst k2)
        (try subst k3)
        (try subst k4)
        (try subst k5)
        (try subst k6)
        go_enter Try.func20, Try.ntmps20
        go_wp2_with fail
        rw [← HW.out]
        go_ret
        refine ⟨retb ?_, hup⟩
        exact HNO.out.symm
    · have hno : sameE ds add lg f ce at_ le ds' add' lg' f' ce' at' le' = false := by
        rw [HV.out, decide_eq_false_iff_not]
        rintro ⟨z1, z2, z3, z4, z5, z6, z7⟩
        first | contradiction | (apply k6; rw [HD.out, HD'.out, z6]) | (apply k7; rw [HL.out, HL'.out, z7])
      have HNO := Lib.hid hno
      clear hno
      (try subst k1)
      (try subst k2)
      (try subst k3)
      (try subst k4)
      (try subst k5)
      (try subst k6)
      go_enter Try.func20, Try.ntmps20
      go_wp2_with fail
      rw [← HW.out]
      go_ret
      refine ⟨retb ?_, hup⟩
      exact HNO.out.symm
  · have hno : sameE ds add lg f ce at_ le ds' add' lg' f' ce' at' le' = false := by
      rw [HV.out, decide_eq_false_iff_not]
      rintro ⟨z1, z2, z3, z4, z5, z6, z7⟩
      first | contradiction | (apply k6; rw [HD.out, HD'.out, z6]) | (apply k7; rw [HL.out, HL'.out, z7])
    have HNO := Lib.hid hno
    clear hno
    (try subst k1)
    (try subst k2)
    (try subst k3)
    (try subst k4)
    (try subst k5)
    (try subst k6)
    go_enter Try.func20, Try.ntmps20
    go_wp2_with fail
    rw [← HW.out]
    go_ret
    refine ⟨retb ?_, hup⟩
    exact HNO.out.symm
end Go.Proofs.Ytokcaoaclheiiaa
