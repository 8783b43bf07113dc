/-
  The walks of slices.Equal at items, of the document's Equal at any two rows, of msg.Same and SameMsg.
-/
import Derived.Test.YtnbdijifhimogaaMsgW1
namespace Go.Proofs.Ytnbdijifhimogaa
open Go.RowKit
set_option linter.unusedVariables false
set_option linter.unusedSimpArgs false

theorem it_ext {a b : It} (h1 : a.s.toInt = b.s.toInt) (h2 : a.k.toInt = b.k.toInt) (h3 : a.t.toNat = b.t.toNat) (h4 : a.v.toNat = b.v.toNat) (h5 : a.x.toInt = b.x.toInt) : a = b := by
  obtain ⟨a1, a2, a3, a4, a5⟩ := a
  obtain ⟨b1, b2, b3, b4, b5⟩ := b
  simp only [It.mk.injEq]
  exact ⟨Int64.toInt_inj.1 h1, Int64.toInt_inj.1 h2, UInt64.toNat_inj.1 h3, UInt64.toNat_inj.1 h4, Int64.toInt_inj.1 h5⟩
instance : DecidableEq It := fun a b => decidable_of_iff (a.s.toInt = b.s.toInt ∧ a.k.toInt = b.k.toInt ∧ a.t.toNat = b.t.toNat ∧ a.v.toNat = b.v.toNat ∧ a.x.toInt = b.x.toInt)
  ⟨fun ⟨h1, h2, h3, h4, h5⟩ => it_ext h1 h2 h3 h4 h5, fun h => by rw [h]; exact ⟨rfl, rfl, rfl, rfl, rfl⟩⟩
set_option maxRecDepth 100000 in
set_option maxHeartbeats 4000000 in
theorem equalS_any (A : Option Addr) (n c : Nat) (l : List It) (A' : Option Addr) (n' c' : Nat) (l' : List It) (w : World)
    (hr : Rd w w.heap.size 5 A n (itcs l)) (hr' : Rd w w.heap.size 5 A' n' (itcs l')) (hn : n ≤ 1099511627776) (hn' : n' ≤ 1099511627776) :
    Calls Try.prog 23 #[.slice A n c, .slice A' n' c'] w fun e w' => e = .returned (.bool (decide (l = l'))) ∧ Up w w' := by
  have HL := Lib.hid hr.ilen
  have HL' := Lib.hid hr'.ilen
  by_cases k6 : n = n'
  · subst k6
    have hnn : ((n : Int) != (n : Int)) = false := by simp
    go_enter Try.func23, Try.ntmps23
    go_wp2_with fail
    go_loopw [13] (fun i wr => ∃ k : Nat, i = .int .i64 (k : Int) ∧ k ≤ n ∧ Hid (l.take k = l'.take k) ∧ Up w wr) (fun i _ => n - (intOf i).toNat)
    case atStart => exact ⟨0, rfl, by omega, rfl, Up.refl _⟩
    case round =>
      obtain ⟨k, rfl, hk, ht, hu⟩ := hrel
      by_cases hlt : k < n
      · obtain ⟨b, o, x, rfl, hb, hx, c0, c1, c2, c3, c4⟩ := (hr.up hu).item_at hlt
        obtain ⟨b', o', y, rfl, hb', hy, d0, d1, d2, d3, d4⟩ := (hr'.up hu).item_at hlt
        obtain ⟨x1, hx1⟩ : ∃ z, z = x.s.toInt := ⟨_, rfl⟩
        obtain ⟨x2, hx2⟩ : ∃ z, z = x.k.toInt := ⟨_, rfl⟩
        obtain ⟨x3, hx3⟩ : ∃ z : Int, z = (x.t.toNat : Int) := ⟨_, rfl⟩
        obtain ⟨x4, hx4⟩ : ∃ z : Int, z = (x.v.toNat : Int) := ⟨_, rfl⟩
        obtain ⟨x5, hx5⟩ : ∃ z, z = x.x.toInt := ⟨_, rfl⟩
        obtain ⟨y1, hy1⟩ : ∃ z, z = y.s.toInt := ⟨_, rfl⟩
        obtain ⟨y2, hy2⟩ : ∃ z, z = y.k.toInt := ⟨_, rfl⟩
        obtain ⟨y3, hy3⟩ : ∃ z : Int, z = (y.t.toNat : Int) := ⟨_, rfl⟩
        obtain ⟨y4, hy4⟩ : ∃ z : Int, z = (y.v.toNat : Int) := ⟨_, rfl⟩
        obtain ⟨y5, hy5⟩ : ∃ z, z = y.x.toInt := ⟨_, rfl⟩
        rw [← hx1] at c0
        rw [← hx2] at c1
        rw [← hx3] at c2
        rw [← hx4] at c3
        rw [← hx5] at c4
        rw [← hy1] at d0
        rw [← hy2] at d1
        rw [← hy3] at d2
        rw [← hy4] at d3
        rw [← hy5] at d4
        have X1 := Lib.hid hx1
        have X2 := Lib.hid hx2
        have X3 := Lib.hid hx3
        have X4 := Lib.hid hx4
        have X5 := Lib.hid hx5
        have Y1 := Lib.hid hy1
        have Y2 := Lib.hid hy2
        have Y3 := Lib.hid hy3
        have Y4 := Lib.hid hy4
        have Y5 := Lib.hid hy5
        clear hx1 hx2 hx3 hx4 hx5 hy1 hy2 hy3 hy4 hy5
        have hS : ∀ W, Up wr W → Up wr W ∧ (W.cell? ⟨b, o + k * 5, none⟩ = some (.int .i64 x1) ∧ W.cell? ⟨b, o + k * 5 + 1, none⟩ = some (.int .i64 x2) ∧ W.cell? ⟨b, o + k * 5 + 2, none⟩ = some (.int .u64 x3) ∧ W.cell? ⟨b, o + k * 5 + 3, none⟩ = some (.int .u64 x4) ∧ W.cell? ⟨b, o + k * 5 + 4, none⟩ = some (.int .i64 x5)) ∧
            (W.cell? ⟨b', o' + k * 5, none⟩ = some (.int .i64 y1) ∧ W.cell? ⟨b', o' + k * 5 + 1, none⟩ = some (.int .i64 y2) ∧ W.cell? ⟨b', o' + k * 5 + 2, none⟩ = some (.int .u64 y3) ∧ W.cell? ⟨b', o' + k * 5 + 3, none⟩ = some (.int .u64 y4) ∧ W.cell? ⟨b', o' + k * 5 + 4, none⟩ = some (.int .i64 y5)) := fun W h =>
          ⟨h, ⟨(h.cell (p := ⟨b, o + k * 5, none⟩) hb).trans c0, (h.cell (p := ⟨b, o + k * 5 + 1, none⟩) hb).trans c1, (h.cell (p := ⟨b, o + k * 5 + 2, none⟩) hb).trans c2, (h.cell (p := ⟨b, o + k * 5 + 3, none⟩) hb).trans c3, (h.cell (p := ⟨b, o + k * 5 + 4, none⟩) hb).trans c4⟩,
            (h.cell (p := ⟨b', o' + k * 5, none⟩) hb').trans d0, (h.cell (p := ⟨b', o' + k * 5 + 1, none⟩) hb').trans d1, (h.cell (p := ⟨b', o' + k * 5 + 2, none⟩) hb').trans d2, (h.cell (p := ⟨b', o' + k * 5 + 3, none⟩) hb').trans d3, (h.cell (p := ⟨b', o' + k * 5 + 4, none⟩) hb').trans d4⟩
        have hkl : k < l.length := by have := HL.out; omega
        have hkl' : k < l'.length := by have := HL'.out; omega
        rw [List.getElem?_eq_getElem hkl] at hx
        rw [List.getElem?_eq_getElem hkl'] at hy
        injection hx with hx
        injection hy with hy
        have HX := Lib.hid hx
        have HX' := Lib.hid hy
        have hki : (k : Int) < (n : Int) := by omega
        have hkb : decide ((k : Int) < (n : Int)) = true := by simp; omega
        clear hx hy c0 c1 c2 c3 c4 d0 d1 d2 d3 d4
        by_cases m1 : x1 = y1
        · by_cases m2 : x2 = y2
          · by_cases m3 : x3 = y3
            · by_cases m4 : x4 = y4
              · by_cases m5 : x5 = y5
                · subst m1; subst m2; subst m3; subst m4; subst m5
                  have hxy := it_ext (X1.out.symm.trans Y1.out) (X2.out.symm.trans Y2.out) (by have := X3.out; have := Y3.out; omega) (by have := X4.out; have := Y4.out; omega) (X5.out.symm.trans Y5.out)
                  have HXY := Lib.hid hxy
                  clear hxy
                  go_wp2_with fail
                  apply Rg.region_up _ (by kernel_rfl) (by kernel_rfl) hS
                  · intro QN hQN
                    iterate 9 (apply Rg.RK.ok; (· intro vs w1 hS; go_simp; with_reducible rfl); (· rfl); simp only [Act.put, List.setIfInBounds_toArray, List.set_cons_zero, List.set_cons_succ, Nat.reduceAdd])
                    apply Rg.RK.fin []
                    intro vs w1 hK hS _
                    refine hQN.out _ _ ?_
                    clear hQN
                    go_wp2_with fail
                    go_roundw
                    case rel =>
                      refine ⟨k + 1, by go_num, by omega, ?_, hu.trans (keeps_up hK)⟩
                      show _ = _
                      rw [List.take_succ_eq_append_getElem hkl, List.take_succ_eq_append_getElem hkl', ht.out, HX.out, HX'.out, HXY.out]
                    case measure => simp [intOf]; omega
                  · kernel_rfl
                · have hne : l ≠ l' := by
                    intro e
                    subst e
                    have h := HX.out.symm.trans HX'.out
                    have a1 := X1.out; have a2 := X2.out; have a3 := X3.out; have a4 := X4.out; have a5 := X5.out
                    have b1 := Y1.out; have b2 := Y2.out; have b3 := Y3.out; have b4 := Y4.out; have b5 := Y5.out
                    rw [h] at a1 a2 a3 a4 a5
                    omega
                  have HNE := Lib.hid hne
                  clear hne
                  go_wp2_with fail
                  apply Rg.region_up _ (by kernel_rfl) (by kernel_rfl) hS
                  · intro QN hQN
                    iterate 9 (apply Rg.RK.ok; (· intro vs w1 hS; go_simp; with_reducible rfl); (· rfl); simp only [Act.put, List.setIfInBounds_toArray, List.set_cons_zero, List.set_cons_succ, Nat.reduceAdd])
                    apply Rg.RK.fin []
                    intro vs w1 hK hS _
                    refine hQN.out _ _ ?_
                    clear hQN
                    go_wp2_with fail
                    go_ret
                    refine ⟨retb ?_, hu.trans (keeps_up hK)⟩
                    have := HNE.out
                    simp [this]
                  · kernel_rfl
              · have hne : l ≠ l' := by
                  intro e
                  subst e
                  have h := HX.out.symm.trans HX'.out
                  have a1 := X1.out; have a2 := X2.out; have a3 := X3.out; have a4 := X4.out; have a5 := X5.out
                  have b1 := Y1.out; have b2 := Y2.out; have b3 := Y3.out; have b4 := Y4.out; have b5 := Y5.out
                  rw [h] at a1 a2 a3 a4 a5
                  omega
                have HNE := Lib.hid hne
                clear hne
                go_wp2_with fail
                apply Rg.region_up _ (by kernel_rfl) (by kernel_rfl) hS
                · intro QN hQN
                  iterate 9 (apply Rg.RK.ok; (· intro vs w1 hS; go_simp; with_reducible rfl); (· rfl); simp only [Act.put, List.setIfInBounds_toArray, List.set_cons_zero, List.set_cons_succ, Nat.reduceAdd])
                  apply Rg.RK.fin []
                  intro vs w1 hK hS _
                  refine hQN.out _ _ ?_
                  clear hQN
                  go_wp2_with fail
                  go_ret
                  refine ⟨retb ?_, hu.trans (keeps_up hK)⟩
                  have := HNE.out
                  simp [this]
                · kernel_rfl
            · have hne : l ≠ l' := by
                intro e
                subst e
                have h := HX.out.symm.trans HX'.out
                have a1 := X1.out; have a2 := X2.out; have a3 := X3.out; have a4 := X4.out; have a5 := X5.out
                have b1 := Y1.out; have b2 := Y2.out; have b3 := Y3.out; have b4 := Y4.out; have b5 := Y5.out
                rw [h] at a1 a2 a3 a4 a5
                omega
              have HNE := Lib.hid hne
              clear hne
              go_wp2_with fail
              apply Rg.region_up _ (by kernel_rfl) (by kernel_rfl) hS
              · intro QN hQN
                iterate 9 (apply Rg.RK.ok; (· intro vs w1 hS; go_simp; with_reducible rfl); (· rfl); simp only [Act.put, List.setIfInBounds_toArray, List.set_cons_zero, List.set_cons_succ, Nat.reduceAdd])
                apply Rg.RK.fin []
                intro vs w1 hK hS _
                refine hQN.out _ _ ?_
                clear hQN
                go_wp2_with fail
                go_ret
                refine ⟨retb ?_, hu.trans (keeps_up hK)⟩
                have := HNE.out
                simp [this]
              · kernel_rfl
          · have hne : l ≠ l' := by
              intro e
              subst e
              have h := HX.out.symm.trans HX'.out
              have a1 := X1.out; have a2 := X2.out; have a3 := X3.out; have a4 := X4.out; have a5 := X5.out
              have b1 := Y1.out; have b2 := Y2.out; have b3 := Y3.out; have b4 := Y4.out; have b5 := Y5.out
              rw [h] at a1 a2 a3 a4 a5
              omega
            have HNE := Lib.hid hne
            clear hne
            go_wp2_with fail
            apply Rg.region_up _ (by kernel_rfl) (by kernel_rfl) hS
            · intro QN hQN
              iterate 9 (apply Rg.RK.ok; (· intro vs w1 hS; go_simp; with_reducible rfl); (· rfl); simp only [Act.put, List.setIfInBounds_toArray, List.set_cons_zero, List.set_cons_succ, Nat.reduceAdd])
              apply Rg.RK.fin []
              intro vs w1 hK hS _
              refine hQN.out _ _ ?_
              clear hQN
              go_wp2_with fail
              go_ret
              refine ⟨retb ?_, hu.trans (keeps_up hK)⟩
              have := HNE.out
              simp [this]
            · kernel_rfl
        · have hne : l ≠ l' := by
            intro e
            subst e
            have h := HX.out.symm.trans HX'.out
            have a1 := X1.out; have a2 := X2.out; have a3 := X3.out; have a4 := X4.out; have a5 := X5.out
            have b1 := Y1.out; have b2 := Y2.out; have b3 := Y3.out; have b4 := Y4.out; have b5 := Y5.out
            rw [h] at a1 a2 a3 a4 a5
            omega
          have HNE := Lib.hid hne
          clear hne
          go_wp2_with fail
          apply Rg.region_up _ (by kernel_rfl) (by kernel_rfl) hS
          · intro QN hQN
            iterate 9 (apply Rg.RK.ok; (· intro vs w1 hS; go_simp; with_reducible rfl); (· rfl); simp only [Act.put, List.setIfInBounds_toArray, List.set_cons_zero, List.set_cons_succ, Nat.reduceAdd])
            apply Rg.RK.fin []
            intro vs w1 hK hS _
            refine hQN.out _ _ ?_
            clear hQN
            go_wp2_with fail
            go_ret
            refine ⟨retb ?_, hu.trans (keeps_up hK)⟩
            have := HNE.out
            simp [this]
          · kernel_rfl
      · go_wp2_with fail
        go_ret
        refine ⟨retb ?_, hu⟩
        have hkn : k = n := by omega
        have hll : l = l' := by
          have h := ht.out
          rwa [List.take_of_length_le (by have := HL.out; omega), List.take_of_length_le (by have := HL'.out; omega)] at h
        rw [hll]
        simp
  · have hne : decide (l = l') = false := by
      rw [decide_eq_false_iff_not]
      intro e
      apply k6
      rw [HL.out, HL'.out, e]
    have HNE := Lib.hid hne
    clear hne
    have hnn : ((n : Int) != (n' : Int)) = true := by simp; omega
    go_enter Try.func23, Try.ntmps23
    go_wp2_with fail
    go_ret
    refine ⟨retb ?_, Up.refl _⟩
    rw [HNE.out]
set_option maxRecDepth 100000 in
set_option maxHeartbeats 4000000 in
theorem requal_any (A : Option Addr) (n c : Nat) (l : List It) (A' : Option Addr) (n' c' : Nat) (l' : List It) (w : World)
    (hr : Rd w w.heap.size 5 A n (itcs l)) (hr' : Rd w w.heap.size 5 A' n' (itcs l')) (hn : n ≤ 1099511627776) (hn' : n' ≤ 1099511627776) :
    Calls Try.prog 28 #[.slice A n c, .slice A' n' c'] w fun e w' => e = .returned (.bool (decide (l = l'))) ∧ Up w w' := by
  have HL := Lib.hid hr.ilen
  have HL' := Lib.hid hr'.ilen
  by_cases k6 : n = n'
  · subst k6
    have hnn : ((n : Int) != (n : Int)) = false := by simp
    go_enter Try.func28, Try.ntmps28
    go_wp2_with fail
    go_loopw [5] (fun i wr => ∃ k : Nat, i = .int .i64 (k : Int) ∧ k ≤ n ∧ Hid (l.take k = l'.take k) ∧ Up w wr) (fun i _ => n - (intOf i).toNat)
    case atStart => exact ⟨0, rfl, by omega, rfl, Up.refl _⟩
    case round =>
      obtain ⟨k, rfl, hk, ht, hu⟩ := hrel
      by_cases hlt : k < n
      · obtain ⟨b, o, x, rfl, hb, hx, c0, c1, c2, c3, c4⟩ := (hr.up hu).item_at hlt
        obtain ⟨b', o', y, rfl, hb', hy, d0, d1, d2, d3, d4⟩ := (hr'.up hu).item_at hlt
        obtain ⟨x1, hx1⟩ : ∃ z, z = x.s.toInt := ⟨_, rfl⟩
        obtain ⟨x2, hx2⟩ : ∃ z, z = x.k.toInt := ⟨_, rfl⟩
        obtain ⟨x3, hx3⟩ : ∃ z : Int, z = (x.t.toNat : Int) := ⟨_, rfl⟩
        obtain ⟨x4, hx4⟩ : ∃ z : Int, z = (x.v.toNat : Int) := ⟨_, rfl⟩
        obtain ⟨x5, hx5⟩ : ∃ z, z = x.x.toInt := ⟨_, rfl⟩
        obtain ⟨y1, hy1⟩ : ∃ z, z = y.s.toInt := ⟨_, rfl⟩
        obtain ⟨y2, hy2⟩ : ∃ z, z = y.k.toInt := ⟨_, rfl⟩
        obtain ⟨y3, hy3⟩ : ∃ z : Int, z = (y.t.toNat : Int) := ⟨_, rfl⟩
        obtain ⟨y4, hy4⟩ : ∃ z : Int, z = (y.v.toNat : Int) := ⟨_, rfl⟩
        obtain ⟨y5, hy5⟩ : ∃ z, z = y.x.toInt := ⟨_, rfl⟩
        rw [← hx1] at c0
        rw [← hx2] at c1
        rw [← hx3] at c2
        rw [← hx4] at c3
        rw [← hx5] at c4
        rw [← hy1] at d0
        rw [← hy2] at d1
        rw [← hy3] at d2
        rw [← hy4] at d3
        rw [← hy5] at d4
        have X1 := Lib.hid hx1
        have X2 := Lib.hid hx2
        have X3 := Lib.hid hx3
        have X4 := Lib.hid hx4
        have X5 := Lib.hid hx5
        have Y1 := Lib.hid hy1
        have Y2 := Lib.hid hy2
        have Y3 := Lib.hid hy3
        have Y4 := Lib.hid hy4
        have Y5 := Lib.hid hy5
        clear hx1 hx2 hx3 hx4 hx5 hy1 hy2 hy3 hy4 hy5
        have hS : ∀ W, Up wr W → Up wr W ∧ (W.cell? ⟨b, o + k * 5, none⟩ = some (.int .i64 x1) ∧ W.cell? ⟨b, o + k * 5 + 1, none⟩ = some (.int .i64 x2) ∧ W.cell? ⟨b, o + k * 5 + 2, none⟩ = some (.int .u64 x3) ∧ W.cell? ⟨b, o + k * 5 + 3, none⟩ = some (.int .u64 x4) ∧ W.cell? ⟨b, o + k * 5 + 4, none⟩ = some (.int .i64 x5)) ∧
            (W.cell? ⟨b', o' + k * 5, none⟩ = some (.int .i64 y1) ∧ W.cell? ⟨b', o' + k * 5 + 1, none⟩ = some (.int .i64 y2) ∧ W.cell? ⟨b', o' + k * 5 + 2, none⟩ = some (.int .u64 y3) ∧ W.cell? ⟨b', o' + k * 5 + 3, none⟩ = some (.int .u64 y4) ∧ W.cell? ⟨b', o' + k * 5 + 4, none⟩ = some (.int .i64 y5)) := fun W h =>
          ⟨h, ⟨(h.cell (p := ⟨b, o + k * 5, none⟩) hb).trans c0, (h.cell (p := ⟨b, o + k * 5 + 1, none⟩) hb).trans c1, (h.cell (p := ⟨b, o + k * 5 + 2, none⟩) hb).trans c2, (h.cell (p := ⟨b, o + k * 5 + 3, none⟩) hb).trans c3, (h.cell (p := ⟨b, o + k * 5 + 4, none⟩) hb).trans c4⟩,
            (h.cell (p := ⟨b', o' + k * 5, none⟩) hb').trans d0, (h.cell (p := ⟨b', o' + k * 5 + 1, none⟩) hb').trans d1, (h.cell (p := ⟨b', o' + k * 5 + 2, none⟩) hb').trans d2, (h.cell (p := ⟨b', o' + k * 5 + 3, none⟩) hb').trans d3, (h.cell (p := ⟨b', o' + k * 5 + 4, none⟩) hb').trans d4⟩
        have hkl : k < l.length := by have := HL.out; omega
        have hkl' : k < l'.length := by have := HL'.out; omega
        rw [List.getElem?_eq_getElem hkl] at hx
        rw [List.getElem?_eq_getElem hkl'] at hy
        injection hx with hx
        injection hy with hy
        have HX := Lib.hid hx
        have HX' := Lib.hid hy
        have hki : (k : Int) < (n : Int) := by omega
        have hkb : decide ((k : Int) < (n : Int)) = true := by simp; omega
        clear hx hy c0 c1 c2 c3 c4 d0 d1 d2 d3 d4
        by_cases m1 : x1 = y1
        · by_cases m2 : x2 = y2
          · by_cases m3 : x3 = y3
            · by_cases m4 : x4 = y4
              · by_cases m5 : x5 = y5
                · subst m1; subst m2; subst m3; subst m4; subst m5
                  have hxy := it_ext (X1.out.symm.trans Y1.out) (X2.out.symm.trans Y2.out) (by have := X3.out; have := Y3.out; omega) (by have := X4.out; have := Y4.out; omega) (X5.out.symm.trans Y5.out)
                  have HXY := Lib.hid hxy
                  clear hxy
                  go_wp2_with fail
                  apply Rg.region_up _ (by kernel_rfl) (by kernel_rfl) hS
                  · intro QN hQN
                    iterate 9 (apply Rg.RK.ok; (· intro vs w1 hS; go_simp; with_reducible rfl); (· rfl); simp only [Act.put, List.setIfInBounds_toArray, List.set_cons_zero, List.set_cons_succ, Nat.reduceAdd])
                    apply Rg.RK.fin []
                    intro vs w1 hK hS _
                    refine hQN.out _ _ ?_
                    clear hQN
                    go_wp2_with fail
                    go_roundw
                    case rel =>
                      refine ⟨k + 1, by go_num, by omega, ?_, hu.trans (keeps_up hK)⟩
                      show _ = _
                      rw [List.take_succ_eq_append_getElem hkl, List.take_succ_eq_append_getElem hkl', ht.out, HX.out, HX'.out, HXY.out]
                    case measure => simp [intOf]; omega
                  · kernel_rfl
                · have hne : l ≠ l' := by
                    intro e
                    subst e
                    have h := HX.out.symm.trans HX'.out
                    have a1 := X1.out; have a2 := X2.out; have a3 := X3.out; have a4 := X4.out; have a5 := X5.out
                    have b1 := Y1.out; have b2 := Y2.out; have b3 := Y3.out; have b4 := Y4.out; have b5 := Y5.out
                    rw [h] at a1 a2 a3 a4 a5
                    omega
                  have HNE := Lib.hid hne
                  clear hne
                  go_wp2_with fail
                  apply Rg.region_up _ (by kernel_rfl) (by kernel_rfl) hS
                  · intro QN hQN
                    iterate 9 (apply Rg.RK.ok; (· intro vs w1 hS; go_simp; with_reducible rfl); (· rfl); simp only [Act.put, List.setIfInBounds_toArray, List.set_cons_zero, List.set_cons_succ, Nat.reduceAdd])
                    apply Rg.RK.fin []
                    intro vs w1 hK hS _
                    refine hQN.out _ _ ?_
                    clear hQN
                    go_wp2_with fail
                    go_ret
                    refine ⟨retb ?_, hu.trans (keeps_up hK)⟩
                    have := HNE.out
                    simp [this]
                  · kernel_rfl
              · have hne : l ≠ l' := by
                  intro e
                  subst e
                  have h := HX.out.symm.trans HX'.out
                  have a1 := X1.out; have a2 := X2.out; have a3 := X3.out; have a4 := X4.out; have a5 := X5.out
                  have b1 := Y1.out; have b2 := Y2.out; have b3 := Y3.out; have b4 := Y4.out; have b5 := Y5.out
                  rw [h] at a1 a2 a3 a4 a5
                  omega
                have HNE := Lib.hid hne
                clear hne
                go_wp2_with fail
                apply Rg.region_up _ (by kernel_rfl) (by kernel_rfl) hS
                · intro QN hQN
                  iterate 9 (apply Rg.RK.ok; (· intro vs w1 hS; go_simp; with_reducible rfl); (· rfl); simp only [Act.put, List.setIfInBounds_toArray, List.set_cons_zero, List.set_cons_succ, Nat.reduceAdd])
                  apply Rg.RK.fin []
                  intro vs w1 hK hS _
                  refine hQN.out _ _ ?_
                  clear hQN
                  go_wp2_with fail
                  go_ret
                  refine ⟨retb ?_, hu.trans (keeps_up hK)⟩
                  have := HNE.out
                  simp [this]
                · kernel_rfl
            · have hne : l ≠ l' := by
                intro e
                subst e
                have h := HX.out.symm.trans HX'.out
                have a1 := X1.out; have a2 := X2.out; have a3 := X3.out; have a4 := X4.out; have a5 := X5.out
                have b1 := Y1.out; have b2 := Y2.out; have b3 := Y3.out; have b4 := Y4.out; have b5 := Y5.out
                rw [h] at a1 a2 a3 a4 a5
                omega
              have HNE := Lib.hid hne
              clear hne
              go_wp2_with fail
              apply Rg.region_up _ (by kernel_rfl) (by kernel_rfl) hS
              · intro QN hQN
                iterate 9 (apply Rg.RK.ok; (· intro vs w1 hS; go_simp; with_reducible rfl); (· rfl); simp only [Act.put, List.setIfInBounds_toArray, List.set_cons_zero, List.set_cons_succ, Nat.reduceAdd])
                apply Rg.RK.fin []
                intro vs w1 hK hS _
                refine hQN.out _ _ ?_
                clear hQN
                go_wp2_with fail
                go_ret
                refine ⟨retb ?_, hu.trans (keeps_up hK)⟩
                have := HNE.out
                simp [this]
              · kernel_rfl
          · have hne : l ≠ l' := by
              intro e
              subst e
              have h := HX.out.symm.trans HX'.out
              have a1 := X1.out; have a2 := X2.out; have a3 := X3.out; have a4 := X4.out; have a5 := X5.out
              have b1 := Y1.out; have b2 := Y2.out; have b3 := Y3.out; have b4 := Y4.out; have b5 := Y5.out
              rw [h] at a1 a2 a3 a4 a5
              omega
            have HNE := Lib.hid hne
            clear hne
            go_wp2_with fail
            apply Rg.region_up _ (by kernel_rfl) (by kernel_rfl) hS
            · intro QN hQN
              iterate 9 (apply Rg.RK.ok; (· intro vs w1 hS; go_simp; with_reducible rfl); (· rfl); simp only [Act.put, List.setIfInBounds_toArray, List.set_cons_zero, List.set_cons_succ, Nat.reduceAdd])
              apply Rg.RK.fin []
              intro vs w1 hK hS _
              refine hQN.out _ _ ?_
              clear hQN
              go_wp2_with fail
              go_ret
              refine ⟨retb ?_, hu.trans (keeps_up hK)⟩
              have := HNE.out
              simp [this]
            · kernel_rfl
        · have hne : l ≠ l' := by
            intro e
            subst e
            have h := HX.out.symm.trans HX'.out
            have a1 := X1.out; have a2 := X2.out; have a3 := X3.out; have a4 := X4.out; have a5 := X5.out
            have b1 := Y1.out; have b2 := Y2.out; have b3 := Y3.out; have b4 := Y4.out; have b5 := Y5.out
            rw [h] at a1 a2 a3 a4 a5
            omega
          have HNE := Lib.hid hne
          clear hne
          go_wp2_with fail
          apply Rg.region_up _ (by kernel_rfl) (by kernel_rfl) hS
          · intro QN hQN
            iterate 9 (apply Rg.RK.ok; (· intro vs w1 hS; go_simp; with_reducible rfl); (· rfl); simp only [Act.put, List.setIfInBounds_toArray, List.set_cons_zero, List.set_cons_succ, Nat.reduceAdd])
            apply Rg.RK.fin []
            intro vs w1 hK hS _
            refine hQN.out _ _ ?_
            clear hQN
            go_wp2_with fail
            go_ret
            refine ⟨retb ?_, hu.trans (keeps_up hK)⟩
            have := HNE.out
            simp [this]
          · kernel_rfl
      · go_wp2_with fail
        go_ret
        refine ⟨retb ?_, hu⟩
        have hkn : k = n := by omega
        have hll : l = l' := by
          have h := ht.out
          rwa [List.take_of_length_le (by have := HL.out; omega), List.take_of_length_le (by have := HL'.out; omega)] at h
        rw [hll]
        simp
  · have hne : decide (l = l') = false := by
      rw [decide_eq_false_iff_not]
      intro e
      apply k6
      rw [HL.out, HL'.out, e]
    have HNE := Lib.hid hne
    clear hne
    have hnn : ((n : Int) != (n' : Int)) = true := by simp; omega
    go_enter Try.func28, Try.ntmps28
    go_wp2_with fail
    go_ret
    refine ⟨retb ?_, Up.refl _⟩
    rw [HNE.out]
end Go.Proofs.Ytnbdijifhimogaa
