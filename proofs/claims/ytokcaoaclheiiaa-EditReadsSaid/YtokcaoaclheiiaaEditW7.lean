/-
  The walks of edit.Whole, slices.Equal at files, edit.Same, Few.
-/
import Derived.Test.YtokcaoaclheiiaaEditW5
namespace Go.Proofs.Ytokcaoaclheiiaa
open Go.RowKit
set_option linter.unusedVariables false
set_option linter.unusedSimpArgs false

/-- seven cells stored one by one -/
theorem set7 (w : World) (g : Nat) (a0 a1 a2 a3 a4 a5 a6 v0 v1 v2 v3 v4 v5 v6 : Value) (t : TypeId) (h : w.heap[g]? = some (.cells #[a0, a1, a2, a3, a4, a5, a6] t (0, 0))) :
    (((((((w.setCell ⟨g, 0, none⟩ v0).setCell ⟨g, 1, none⟩ v1).setCell ⟨g, 2, none⟩ v2).setCell ⟨g, 3, none⟩ v3).setCell ⟨g, 4, none⟩ v4).setCell ⟨g, 5, none⟩ v5).setCell ⟨g, 6, none⟩ v6).heap[g]? = some (.cells #[v0, v1, v2, v3, v4, v5, v6] t (0, 0)) ∧
    Rg.Keeps (fun x => x = g) w (((((((w.setCell ⟨g, 0, none⟩ v0).setCell ⟨g, 1, none⟩ v1).setCell ⟨g, 2, none⟩ v2).setCell ⟨g, 3, none⟩ v3).setCell ⟨g, 4, none⟩ v4).setCell ⟨g, 5, none⟩ v5).setCell ⟨g, 6, none⟩ v6) := by
  have e0 : (w.setCell ⟨g, 0, none⟩ v0).heap[g]? = some (.cells #[v0, a1, a2, a3, a4, a5, a6] t (0, 0)) := setc_heap _ g 0 v0 _ _ h
  have e1 : ((w.setCell ⟨g, 0, none⟩ v0).setCell ⟨g, 1, none⟩ v1).heap[g]? = some (.cells #[v0, v1, a2, a3, a4, a5, a6] t (0, 0)) := setc_heap _ g 1 v1 _ _ e0
  have e2 : (((w.setCell ⟨g, 0, none⟩ v0).setCell ⟨g, 1, none⟩ v1).setCell ⟨g, 2, none⟩ v2).heap[g]? = some (.cells #[v0, v1, v2, a3, a4, a5, a6] t (0, 0)) := setc_heap _ g 2 v2 _ _ e1
  have e3 : ((((w.setCell ⟨g, 0, none⟩ v0).setCell ⟨g, 1, none⟩ v1).setCell ⟨g, 2, none⟩ v2).setCell ⟨g, 3, none⟩ v3).heap[g]? = some (.cells #[v0, v1, v2, v3, a4, a5, a6] t (0, 0)) := setc_heap _ g 3 v3 _ _ e2
  have e4 : (((((w.setCell ⟨g, 0, none⟩ v0).setCell ⟨g, 1, none⟩ v1).setCell ⟨g, 2, none⟩ v2).setCell ⟨g, 3, none⟩ v3).setCell ⟨g, 4, none⟩ v4).heap[g]? = some (.cells #[v0, v1, v2, v3, v4, a5, a6] t (0, 0)) := setc_heap _ g 4 v4 _ _ e3
  have e5 : ((((((w.setCell ⟨g, 0, none⟩ v0).setCell ⟨g, 1, none⟩ v1).setCell ⟨g, 2, none⟩ v2).setCell ⟨g, 3, none⟩ v3).setCell ⟨g, 4, none⟩ v4).setCell ⟨g, 5, none⟩ v5).heap[g]? = some (.cells #[v0, v1, v2, v3, v4, v5, a6] t (0, 0)) := setc_heap _ g 5 v5 _ _ e4
  have e6 : (((((((w.setCell ⟨g, 0, none⟩ v0).setCell ⟨g, 1, none⟩ v1).setCell ⟨g, 2, none⟩ v2).setCell ⟨g, 3, none⟩ v3).setCell ⟨g, 4, none⟩ v4).setCell ⟨g, 5, none⟩ v5).setCell ⟨g, 6, none⟩ v6).heap[g]? = some (.cells #[v0, v1, v2, v3, v4, v5, v6] t (0, 0)) := setc_heap _ g 6 v6 _ _ e5
  exact ⟨e6, setc_keeps _ _ _ _ _ (setc_keeps _ _ _ _ _ (setc_keeps _ _ _ _ _ (setc_keeps _ _ _ _ _ (setc_keeps _ _ _ _ _ (setc_keeps _ _ _ _ _ (setc_keeps _ _ _ _ _ (Rg.Keeps.refl _ _)))))))⟩

set_option maxRecDepth 100000 in
set_option maxHeartbeats 1600000 in
theorem whole_any (lg : Int) (A : Option Addr) (n c : Nat) (l : List Fl) (f ce at_ le : Nat) (w : World) (hr : Rd w w.heap.size 2 A n (fvs l)) (hn : n ≤ 1099511627776) :
    Calls Try.prog 14 #[.agg #[.int .i64 lg, .slice A n c, .int .u64 (f : Int), .int .u64 (ce : Int), .int .u64 (at_ : Int), .int .u64 (le : Int)]] w
      fun e w' => ∃ R rc, e = .returned (.agg #[.slice none 0 0, .slice R n rc, .int .i64 lg, .int .u64 (f : Int), .int .u64 (ce : Int), .int .u64 (at_ : Int), .int .u64 (le : Int)]) ∧ Rd w' w'.heap.size 2 R n (fvs l) ∧ Up w w' := by
  obtain ⟨w2, hw2⟩ : ∃ w2, w2 = (w.alloc (.cells #[.int .i64 lg, .slice A n c, .int .u64 (f : Int), .int .u64 (ce : Int), .int .u64 (at_ : Int), .int .u64 (le : Int)] 27)).alloc (.cells #[.slice none 0 0, .slice none 0 0, .int .i64 0, .int .u64 0, .int .u64 0, .int .u64 0, .int .u64 0] 32) := ⟨_, rfl⟩
  have hup : Up w w2 := by rw [hw2]; exact ((Up.refl w).alloc _).alloc _
  have h1 : w2.heap[w.heap.size]? = some (.cells #[.int .i64 lg, .slice A n c, .int .u64 (f : Int), .int .u64 (ce : Int), .int .u64 (at_ : Int), .int .u64 (le : Int)] 27 (0, 0)) := by
    rw [hw2, Below.heap_alloc _ _ _ (by simp)]; exact heap_alloc_new w _
  have h2 : w2.heap[w.heap.size + 1]? = some (.cells #[.slice none 0 0, .slice none 0 0, .int .i64 0, .int .u64 0, .int .u64 0, .int .u64 0, .int .u64 0] 32 (0, 0)) := by
    rw [hw2]
    have h := heap_alloc_new (w.alloc (.cells #[.int .i64 lg, .slice A n c, .int .u64 (f : Int), .int .u64 (ce : Int), .int .u64 (at_ : Int), .int .u64 (le : Int)] 27)) (.cells #[.slice none 0 0, .slice none 0 0, .int .i64 0, .int .u64 0, .int .u64 0, .int .u64 0, .int .u64 0] 32)
    rwa [World.size_alloc] at h
  have HW := Lib.hid hw2
  clear hw2
  have hr2 := hr.up hup
  have hl2 := (Array.getElem?_eq_some_iff.1 h2).1
  go_enter Try.func14, Try.ntmps14
  go_wp2_with fail
  rw [← HW.out]
  clear HW
  have hg2 : w.heap.size ≤ w.heap.size + 1 := by omega
  generalize hgr : w.heap.size + 1 = gr at *
  have hgv : ¬ w.heap.size = gr := by omega
  generalize w.heap.size = gv at h1 hgv ⊢
  have hS : ∀ w1, Rg.Keeps (fun g => g = gr) w2.drew w1 → (w1.cell? ⟨gv, 0, none⟩ = some (.int .i64 lg) ∧ w1.cell? ⟨gv, 1, none⟩ = some (.slice A n c) ∧ w1.cell? ⟨gv, 2, none⟩ = some (.int .u64 (f : Int)) ∧ w1.cell? ⟨gv, 3, none⟩ = some (.int .u64 (ce : Int)) ∧ w1.cell? ⟨gv, 4, none⟩ = some (.int .u64 (at_ : Int)) ∧ w1.cell? ⟨gv, 5, none⟩ = some (.int .u64 (le : Int))) := fun w1 hK => by
    have h := (hK.block gv (Array.getElem?_eq_some_iff.1 h1).1 hgv).trans h1
    exact ⟨blk_cell h 0, blk_cell h 1, blk_cell h 2, blk_cell h 3, blk_cell h 4, blk_cell h 5⟩
  apply Rg.region_own 15 _ (fun g => g = gr) (fun W => W.heap[gr]? = some (.cells #[.slice none 0 0, .slice none 0 0, .int .i64 0, .int .u64 0, .int .u64 0, .int .u64 0, .int .u64 0] 32 (0, 0))) rfl (by kernel_rfl) (by kernel_rfl) (by rintro g rfl; exact hl2) h2 (fun w1 w2 h hs => (hs.block gr (Array.getElem?_eq_some_iff.1 h).1 (.inr rfl)).trans h) hS
  · intro QN hQN
    iterate 2 (apply Rg.RK.ok; (· intro vs w1 hS; go_simp; with_reducible rfl); (· rfl); simp only [Act.put, List.setIfInBounds_toArray, List.set_cons_zero, List.set_cons_succ, Nat.reduceAdd])
    apply Rg.RK.opn (fun v W1 => W1.ownsRow w2.heap.size 41 2 v n (fvs l)) Rg.ob [] []
    · exact fun v W1 W2 h hs => row_sta h hs
    · rfl
    · intro vs w4 hK hS hf K hKK
      have hu4 : Up w w4 := keepsUp (wq := w2.drew) hup.drew hg2 hK
      have hnil := World.ownsRow_nil w4 w2.heap.size 41 2
      refine wp_append_rd _ _ _ filesT rfl rfl rfl hnil (hr.up hu4) (fvs_one _) (by omega) (by omega) hK.size fun v' w5 ho' hg' hat' => ?_
      rw [Nat.zero_add, List.nil_append] at ho'
      exact hKK.out _ _ ho' (keeps_grown hnil hg' fun g hg => hg.elim) (own_grown hnil ho' hat' fun g hg => hg.elim)
    simp only [Act.put, List.setIfInBounds_toArray, List.set_cons_zero, List.set_cons_succ, Nat.reduceAdd]
    iterate 10 (apply Rg.RK.ok; (· intro vs w1 hS; go_simp; with_reducible rfl); (· rfl); simp only [Act.put, List.setIfInBounds_toArray, List.set_cons_zero, List.set_cons_succ, Nat.reduceAdd])
    apply Rg.RK.opD (fun vs W => ∃ R rc, vs 2 = .slice R n rc ∧ vs 13 = .agg #[.slice none 0 0, .slice R n rc, .int .i64 lg, .int .u64 (f : Int), .int .u64 (ce : Int), .int .u64 (at_ : Int), .int .u64 (le : Int)]) (fun _ _ => False) [2] [] [2] (fun vs vs' h => by rw [h 2 (by simp), h 13 (by simp)]; exact ⟨rfl, rfl⟩)
    · exact fun _ _ _ h _ => h
    · rfl
    · intro vs w4 hK hS hf K hKK
      obtain ⟨hown, -⟩ := hf
      have hown2 : w4.ownsRow w2.heap.size 41 2 (vs 2) n (fvs l) := hown
      obtain ⟨R, rc, hv⟩ := own_form hown2
      (try dsimp only at hKK ⊢)
      rw [hv] at hKK ⊢
      go_simp
      refine hKK.out _ _ ⟨R, rc, ?_, ?_⟩ (Rg.Keeps.refl _ _) (fun g hg => hg.elim)
      · rw [Rg.upd_ne _ _ (by decide)]; exact hv
      · rw [Rg.upd_same]
    simp only [Act.put, List.setIfInBounds_toArray, List.set_cons_zero, List.set_cons_succ, Nat.reduceAdd]
    apply Rg.RK.opD (fun vs W => ∃ R rc, vs 2 = .slice R n rc ∧ W.heap[gr]? = some (.cells #[.slice none 0 0, .slice R n rc, .int .i64 lg, .int .u64 (f : Int), .int .u64 (ce : Int), .int .u64 (at_ : Int), .int .u64 (le : Int)] 32 (0, 0))) (fun _ g => g = gr) [13, 15] [15] [2] (fun vs vs' h => by rw [h 2 (by simp)]; exact ⟨rfl, rfl⟩)
    · rintro vs W1 W2 ⟨R, rc, hv, hh⟩ hs
      exact ⟨R, rc, hv, (hs.block gr (Array.getElem?_eq_some_iff.1 hh).1 (.inr rfl)).trans hh⟩
    · rfl
    · intro vs w4 hK hS hf K hKK
      obtain ⟨h13, hblk, -⟩ := hf
      obtain ⟨R, rc, hv2, hv13⟩ := h13
      have hblk2 : w4.heap[gr]? = some (.cells #[.slice none 0 0, .slice none 0 0, .int .i64 0, .int .u64 0, .int .u64 0, .int .u64 0, .int .u64 0] 32 (0, 0)) := hblk
      have t0 := blk_cell hblk2 0
      have t1 := blk_cell hblk2 1
      have t2 := blk_cell hblk2 2
      have t3 := blk_cell hblk2 3
      have t4 := blk_cell hblk2 4
      have t5 := blk_cell hblk2 5
      have t6 := blk_cell hblk2 6
      have s0 := blk_free hblk2 0
      have s1 := blk_free hblk2 1
      have s2 := blk_free hblk2 2
      have s3 := blk_free hblk2 3
      have s4 := blk_free hblk2 4
      have s5 := blk_free hblk2 5
      have s6 := blk_free hblk2 6
      have h7 := set7 w4 gr _ _ _ _ _ _ _ (.slice none 0 0) (.slice R n rc) (.int .i64 lg) (.int .u64 (f : Int)) (.int .u64 (ce : Int)) (.int .u64 (at_ : Int)) (.int .u64 (le : Int)) _ hblk2
      (try dsimp only at hKK ⊢)
      rw [hv13] at hKK ⊢
      have HV2 := Lib.hid hv2
      clear hv2 hv13
      go_simp
      refine hKK.out undef _ ⟨R, rc, ?_, h7.1⟩ (Keeps.weak h7.2 fun y hy => ⟨15, List.mem_singleton.2 rfl, hy⟩) (fun y hy => ⟨?_, .inr ⟨15, List.mem_singleton.2 rfl, hy⟩⟩)
      · rw [Rg.upd_ne _ _ (by decide)]; exact HV2.out
      · have hyy : y = gr := hy
        rw [hyy]; exact (Array.getElem?_eq_some_iff.1 h7.1).1
    simp only [Act.put, List.setIfInBounds_toArray, List.set_cons_zero, List.set_cons_succ, Nat.reduceAdd]
    apply Rg.RK.fin [2, 14]
    intro vs w4 hK hS hf
    obtain ⟨hown, h14, -⟩ := hf
    refine hQN.out _ _ ?_
    clear hQN
    obtain ⟨R, rc, hv2, hh⟩ := h14
    have hown2 : w4.ownsRow w2.heap.size 41 2 (vs 2) n (fvs l) := hown
    rw [hv2] at hown2
    have hu4 : Up w w4 := keepsUp (wq := w2.drew) hup.drew hg2 hK
    clear hown hS hK
    have t0 := blk_cell hh 0
    have t1 := blk_cell hh 1
    have t2 := blk_cell hh 2
    have t3 := blk_cell hh 3
    have t4 := blk_cell hh 4
    have t5 := blk_cell hh 5
    have t6 := blk_cell hh 6
    go_wp2_with fail
    refine bodyPost_ret (v := .agg #[.slice none 0 0, .slice R n rc, .int .i64 lg, .int .u64 (f : Int), .int .u64 (ce : Int), .int .u64 (at_ : Int), .int .u64 (le : Int)]) (by simp [results, Try.results14, go_sem, t0, t1, t2, t3, t4, t5, t6]) rfl ?_
    exact ⟨R, rc, rfl, Rd.own hown2, hu4⟩
  · kernel_rfl
set_option maxRecDepth 100000 in
set_option maxHeartbeats 1600000 in
theorem equalF_any (A : Option Addr) (n c : Nat) (l : List Fl) (A' : Option Addr) (n' c' : Nat) (l' : List Fl) (w : World)
    (hr : Rd w w.heap.size 2 A n (fvs l)) (hr' : Rd w w.heap.size 2 A' n' (fvs l')) (hn : n ≤ 1099511627776) (hn' : n' ≤ 1099511627776) :
    Calls Try.prog 35 #[.slice A n c, .slice A' n' c'] w fun e w' => e = .returned (.bool (decide (l = l'))) ∧ Up w w' := by
  have HL := Lib.hid hr.flen
  have HL' := Lib.hid hr'.flen
  by_cases k6 : n = n'
  · subst k6
    go_enter Try.func35, Try.ntmps35
    go_wp2_with fail
    go_loopw [13] (fun i wr => ∃ k : Nat, i = .int .i64 (k : Int) ∧ k ≤ n ∧ Hid (l.take k = l'.take k) ∧ Up w wr) (fun i _ => n - (intOf i).toNat)
    case atStart => exact ⟨0, rfl, by omega, rfl, Up.refl _⟩
    case round =>
      obtain ⟨k, rfl, hk, ht, hu⟩ := hrel
      by_cases hlt : k < n
      · obtain ⟨b, o, x, rfl, hb, hx, c0, c1⟩ := (hr.up hu).file_at hlt
        obtain ⟨b', o', x', rfl, hb', hx', d0, d1⟩ := (hr'.up hu).file_at hlt
        obtain ⟨x1, x2⟩ := x
        obtain ⟨y1, y2⟩ := x'
        simp only [] at c0 c1 d0 d1
        have hS : ∀ W, Up wr W → Up wr W ∧ W.cell? ⟨b, o + k * 2, none⟩ = some (.int .i64 x1) ∧ W.cell? ⟨b, o + k * 2 + 1, none⟩ = some (.int .i64 x2) ∧ W.cell? ⟨b', o' + k * 2, none⟩ = some (.int .i64 y1) ∧ W.cell? ⟨b', o' + k * 2 + 1, none⟩ = some (.int .i64 y2) := fun W h =>
          ⟨h, (h.cell (p := ⟨b, o + k * 2, none⟩) hb).trans c0, (h.cell (p := ⟨b, o + k * 2 + 1, none⟩) hb).trans c1, (h.cell (p := ⟨b', o' + k * 2, none⟩) hb').trans d0, (h.cell (p := ⟨b', o' + k * 2 + 1, none⟩) hb').trans d1⟩
        have hkl : k < l.length := by have := HL.out; omega
        have hkl' : k < l'.length := by have := HL'.out; omega
        rw [List.getElem?_eq_getElem hkl] at hx
        rw [List.getElem?_eq_getElem hkl'] at hx'
        injection hx with hx
        injection hx' with hx'
        have HX := Lib.hid hx
        have HX' := Lib.hid hx'
        have hki : (k : Int) < (n : Int) := by omega
        have hkb : decide ((k : Int) < (n : Int)) = true := by simp; omega
        clear hx hx' c0 c1 d0 d1
        by_cases m1 : x1 = y1
        · by_cases m2 : x2 = y2
          · subst m1; subst m2
            go_wp2_with fail
            apply Rg.region_up _ (by kernel_rfl) (by kernel_rfl) hS
            · intro QN hQN
              iterate 9 (apply Rg.RK.ok; (· intro vs w1 hS; go_simp; with_reducible rfl); (· rfl); simp only [Act.put, List.setIfInBounds_toArray, List.set_cons_zero, List.set_cons_succ, Nat.reduceAdd])
              apply Rg.RK.fin []
              intro vs w1 hK hS _
              refine hQN.out _ _ ?_
              clear hQN
              go_wp2_with fail
              go_roundw
              case rel =>
                refine ⟨k + 1, by go_num, by omega, ?_, hu.trans (keeps_up hK)⟩
                show _ = _
                rw [List.take_succ_eq_append_getElem hkl, List.take_succ_eq_append_getElem hkl', ht.out, HX.out, HX'.out]
              case measure => simp [intOf]; omega
            · kernel_rfl
          · have hne : l ≠ l' := by
              intro e
              subst e
              have h := HX.out.symm.trans HX'.out
              injection h with h1 h2
              contradiction
            have HNE := Lib.hid hne
            clear hne
            go_wp2_with fail
            apply Rg.region_up _ (by kernel_rfl) (by kernel_rfl) hS
            · intro QN hQN
              iterate 9 (apply Rg.RK.ok; (· intro vs w1 hS; go_simp; with_reducible rfl); (· rfl); simp only [Act.put, List.setIfInBounds_toArray, List.set_cons_zero, List.set_cons_succ, Nat.reduceAdd])
              apply Rg.RK.fin []
              intro vs w1 hK hS _
              refine hQN.out _ _ ?_
              clear hQN
              go_wp2_with fail
              go_ret
              refine ⟨retb ?_, hu.trans (keeps_up hK)⟩
              have := HNE.out
              simp [this]
            · kernel_rfl
        · have hne : l ≠ l' := by
            intro e
            subst e
            have h := HX.out.symm.trans HX'.out
            injection h with h1 h2
            contradiction
          have HNE := Lib.hid hne
          clear hne
          go_wp2_with fail
          apply Rg.region_up _ (by kernel_rfl) (by kernel_rfl) hS
          · intro QN hQN
            iterate 9 (apply Rg.RK.ok; (· intro vs w1 hS; go_simp; with_reducible rfl); (· rfl); simp only [Act.put, List.setIfInBounds_toArray, List.set_cons_zero, List.set_cons_succ, Nat.reduceAdd])
            apply Rg.RK.fin []
            intro vs w1 hK hS _
            refine hQN.out _ _ ?_
            clear hQN
            go_wp2_with fail
            go_ret
            refine ⟨retb ?_, hu.trans (keeps_up hK)⟩
            have := HNE.out
            simp [this]
          · kernel_rfl
      · go_wp2_with fail
        go_ret
        refine ⟨retb ?_, hu⟩
        have hkn : k = n := by omega
        have hll : l = l' := by
          have h := ht.out
          rwa [List.take_of_length_le (by have := HL.out; omega), List.take_of_length_le (by have := HL'.out; omega)] at h
        rw [hll]
        simp
  · have hne : decide (l = l') = false := by
      rw [decide_eq_false_iff_not]
      intro e
      apply k6
      rw [HL.out, HL'.out, e]
    have HNE := Lib.hid hne
    clear hne
    go_enter Try.func35, Try.ntmps35
    go_wp2_with fail
    go_ret
    refine ⟨retb ?_, Up.refl _⟩
    rw [HNE.out]
set_option maxRecDepth 100000 in
set_option maxHeartbeats 1600000 in
theorem vsame_any (lg : Int) (A : Option Addr) (n c : Nat) (l : List Fl) (f ce at_ le : Nat) (lg' : Int) (A' : Option Addr) (n' c' : Nat) (l' : List Fl) (f' ce' at' le' : Nat) (w : World)
    (hr : Rd w w.heap.size 2 A n (fvs l)) (hr' : Rd w w.heap.size 2 A' n' (fvs l')) (hn : n ≤ 1099511627776) (hn' : n' ≤ 1099511627776) :
    Calls Try.prog 15 #[.agg #[.int .i64 lg, .slice A n c, .int .u64 (f : Int), .int .u64 (ce : Int), .int .u64 (at_ : Int), .int .u64 (le : Int)], .agg #[.int .i64 lg', .slice A' n' c', .int .u64 (f' : Int), .int .u64 (ce' : Int), .int .u64 (at' : Int), .int .u64 (le' : Int)]] w
      fun e w' => e = .returned (.bool (sameV lg l f ce at_ le lg' l' f' ce' at' le')) ∧ Up w w' := by
  obtain ⟨w2, hw2⟩ : ∃ w2, w2 = (w.alloc (.cells #[.int .i64 lg, .slice A n c, .int .u64 (f : Int), .int .u64 (ce : Int), .int .u64 (at_ : Int), .int .u64 (le : Int)] 27)).alloc (.cells #[.int .i64 lg', .slice A' n' c', .int .u64 (f' : Int), .int .u64 (ce' : Int), .int .u64 (at' : Int), .int .u64 (le' : Int)] 27) := ⟨_, rfl⟩
  have hup : Up w w2 := by rw [hw2]; exact ((Up.refl w).alloc _).alloc _
  have h1 : w2.heap[w.heap.size]? = some (.cells #[.int .i64 lg, .slice A n c, .int .u64 (f : Int), .int .u64 (ce : Int), .int .u64 (at_ : Int), .int .u64 (le : Int)] 27 (0, 0)) := by
    rw [hw2, Below.heap_alloc _ _ _ (by simp)]; exact heap_alloc_new w _
  have h2 : w2.heap[w.heap.size + 1]? = some (.cells #[.int .i64 lg', .slice A' n' c', .int .u64 (f' : Int), .int .u64 (ce' : Int), .int .u64 (at' : Int), .int .u64 (le' : Int)] 27 (0, 0)) := by
    rw [hw2]
    have h := heap_alloc_new (w.alloc (.cells #[.int .i64 lg, .slice A n c, .int .u64 (f : Int), .int .u64 (ce : Int), .int .u64 (at_ : Int), .int .u64 (le : Int)] 27)) (.cells #[.int .i64 lg', .slice A' n' c', .int .u64 (f' : Int), .int .u64 (ce' : Int), .int .u64 (at' : Int), .int .u64 (le' : Int)] 27)
    rwa [World.size_alloc] at h
  have HW := Lib.hid hw2
  clear hw2
  have hr2 := hr.up hup
  have hr2' := hr'.up hup
  clear hr hr'
  obtain ⟨bq, hbq⟩ : ∃ bq, bq = decide (l = l') := ⟨_, rfl⟩
  have hv : sameV lg l f ce at_ le lg' l' f' ce' at' le' = (bq && decide (lg = lg') && decide (f = f') && decide (ce = ce') && decide (at_ = at') && decide (le = le')) := by
    unfold sameV
    rw [hbq, Bool.eq_iff_iff]
    simp only [decide_eq_true_eq, Bool.and_eq_true]
    constructor
    · rintro ⟨a1, a2, a3, a4, a5, a6⟩; exact ⟨⟨⟨⟨⟨a6, a1⟩, a2⟩, a3⟩, a4⟩, a5⟩
    · rintro ⟨⟨⟨⟨⟨a6, a1⟩, a2⟩, a3⟩, a4⟩, a5⟩; exact ⟨a1, a2, a3, a4, a5, a6⟩
  have HV := Lib.hid hv
  have HBQ := Lib.hid hbq
  clear hv hbq
  go_enter Try.func15, Try.ntmps15
  go_wp2_with fail
  rw [← HW.out]
  clear HW
  generalize w.heap.size + 1 = g2 at *
  generalize w.heap.size = g1 at h1 ⊢
  refine (equalF_any A n c l A' n' c' l' w2 hr2 hr2' hn hn').mono ?_
  rintro e w3 ⟨rfl, hu3⟩
  rw [← HBQ.out]
  have e1 := (hu3.block _ (Array.getElem?_eq_some_iff.1 h1).1).trans h1
  have e2 := (hu3.block _ (Array.getElem?_eq_some_iff.1 h2).1).trans h2
  have hup3 := hup.trans hu3
  clear h1 h2 hup hu3 hr2 hr2' HBQ
  have t0 := blk_cell e1 0
  have t2 := blk_cell e1 2
  have t3 := blk_cell e1 3
  have t4 := blk_cell e1 4
  have t5 := blk_cell e1 5
  have s0 := blk_cell e2 0
  have s2 := blk_cell e2 2
  have s3 := blk_cell e2 3
  have s4 := blk_cell e2 4
  have s5 := blk_cell e2 5
  clear e1 e2
  cases bq
  · (try subst k1)
    (try subst k2)
    (try subst k3)
    (try subst k4)
    (try subst k5)
    go_wp2_with fail
    go_ret
    refine ⟨retb ?_, hup3⟩
    rw [HV.out]
    first | rfl | (simp [*]; done) | (simp [*]; omega)
  · by_cases k1 : lg = lg'
    · by_cases k2 : f = f'
      · by_cases k3 : ce = ce'
        · by_cases k4 : at_ = at'
          · by_cases k5 : le = le'
            · (try subst k1)
              (try subst k2)
              (try subst k3)
              (try subst k4)
              (try subst k5)
              go_wp2_with fail
              go_ret
              refine ⟨retb ?_, hup3⟩
              rw [HV.out]
              first | rfl | (simp [*]; done) | (simp [*]; omega)
            · (try subst k1)
              (try subst k2)
              (try subst k3)
              (try subst k4)
              (try subst k5)
              go_wp2_with fail
              go_ret
              refine ⟨retb ?_, hup3⟩
              rw [HV.out]
              first | rfl | (simp [*]; done) | (simp [*]; omega)
          · (try subst k1)
            (try subst k2)
            (try subst k3)
            (try subst k4)
            (try subst k5)
            go_wp2_with fail
            go_ret
            refine ⟨retb ?_, hup3⟩
            rw [HV.out]
            first | rfl | (simp [*]; done) | (simp [*]; omega)
        · (try subst k1)
          (try subst k2)
          (try subst k3)
          (try subst k4)
          (try subst k5)
          go_wp2_with fail
          go_ret
          refine ⟨retb ?_, hup3⟩
          rw [HV.out]
          first | rfl | (simp [*]; done) | (simp [*]; omega)
      · (try subst k1)
        (try subst k2)
        (try subst k3)
        (try subst k4)
        (try subst k5)
        go_wp2_with fail
        go_ret
        refine ⟨retb ?_, hup3⟩
        rw [HV.out]
        first | rfl | (simp [*]; done) | (simp [*]; omega)
    · (try subst k1)
      (try subst k2)
      (try subst k3)
      (try subst k4)
      (try subst k5)
      go_wp2_with fail
      go_ret
      refine ⟨retb ?_, hup3⟩
      rw [HV.out]
      first | rfl | (simp [*]; done) | (simp [*]; omega)
set_option maxRecDepth 100000 in
theorem few_any (D : Option Addr) (dn dc : Nat) (A : Option Addr) (an ac : Nat) (lg : Int) (f ce at_ le : Nat) (w : World) :
    Calls Try.prog 12 #[.agg #[.slice D dn dc, .slice A an ac, .int .i64 lg, .int .u64 (f : Int), .int .u64 (ce : Int), .int .u64 (at_ : Int), .int .u64 (le : Int)]] w fun e w' => e = .returned (.bool (decide (dn ≤ 60 ∧ an ≤ 60))) ∧ Up w w' := by
  by_cases h1 : dn ≤ 60
  · by_cases h2 : an ≤ 60
    · have e : decide (dn ≤ 60 ∧ an ≤ 60) = true := by simp; omega
      rw [e]
      clear e
      have d1 : (dn : Int) ≤ 60 := by omega
      have d2 : (an : Int) ≤ 60 := by omega
      go_enter Try.func12, Try.ntmps12
      go_wp2_with fail
      go_ret
      refine ⟨retb ?_, (Up.refl w).alloc _⟩
      first | (simp; done) | (simp; omega)
    · have e : decide (dn ≤ 60 ∧ an ≤ 60) = false := by simp; omega
      rw [e]
      clear e
      have d1 : (dn : Int) ≤ 60 := by omega
      have d2 : ¬ (an : Int) ≤ 60 := by omega
      go_enter Try.func12, Try.ntmps12
      go_wp2_with fail
      go_ret
      refine ⟨retb ?_, (Up.refl w).alloc _⟩
      first | (simp; done) | (simp; omega)
  · have e : decide (dn ≤ 60 ∧ an ≤ 60) = false := by simp; omega
    rw [e]
    clear e
    have d1 : ¬ (dn : Int) ≤ 60 := by omega
    go_enter Try.func12, Try.ntmps12
    go_wp2_with fail
    go_ret
    exact ⟨rfl, (Up.refl w).alloc _⟩
end Go.Proofs.Ytokcaoaclheiiaa
