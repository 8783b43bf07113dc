/-
  The law EditWhole: the walk.
-/
import Derived.Test.YtokcaoaclheiiaaEditW6
import Derived.Test.YtokcaoaclheiiaaEditW7
import Derived.Test.YtokcaoaclheiiaaEditReg
import Derived.Test.YtokcaoaclheiiaaOpenEd
import Derived.Test.YtokcaoaclheiiaaNumLaw
import Derived.IntWalk
namespace Go.Proofs.Ytokcaoaclheiiaa.editWhole
open Go.RowKit
set_option linter.unusedVariables false
set_option linter.unusedSimpArgs false

set_option maxRecDepth 100000 in
set_option maxHeartbeats 1600000 in
theorem law_any (A : Option Addr) (n c : Nat) (es : List EdV) (which : Int) (w : World) (hr : IsEs w A n c es) (b1 : -9223372036854775808 ≤ which ∧ which ≤ 9223372036854775807) :
    Calls Try.prog 4 #[.slice A n c, .int .i64 which] w fun e w' => e = .returned (.bool true) ∧ Up w w' := by
  have hn : n ≤ 9223372036854775807 := by have := hr.2.2; omega
  have hz0 : (w.alloc (.cells #[.int .i64 0, .slice none 0 0, .int .u64 0, .int .u64 0, .int .u64 0, .int .u64 0] 27)).heap[w.heap.size]? = some (.cells #[.int .i64 0, .slice none 0 0, .int .u64 0, .int .u64 0, .int .u64 0, .int .u64 0] 27 (0, 0)) := heap_alloc_new _ _
  have hu0 : Up w (w.alloc (.cells #[.int .i64 0, .slice none 0 0, .int .u64 0, .int .u64 0, .int .u64 0, .int .u64 0] 27)) := (Up.refl w).alloc _
  go_enter Try.func4, Try.ntmps4
  go_wp2_with fail
  generalize w.alloc (.cells #[.int .i64 0, .slice none 0 0, .int .u64 0, .int .u64 0, .int .u64 0, .int .u64 0] 27) = w1 at *
  have hgv : w.heap.size ≤ w.heap.size := Nat.le_refl _
  generalize hgvE : w.heap.size = gv at hz0 hgv ⊢
  go_loopw [6] (fun i wr => ∃ (k : Nat) (lg : Int) (l : List Fl) (f ce at_ le : Nat) (V : Option Addr) (vn : Nat), i = .int .i64 (k : Int) ∧ k ≤ 20 ∧ k ≤ n ∧ Up w wr ∧ VB lg l f ce at_ le gv V vn wr ∧ Hid (viewOk lg l f ce at_ le = true ∨ (lg = 0 ∧ l = [] ∧ f = 0 ∧ ce = 0 ∧ at_ = 0 ∧ le = 0))) (fun i _ => 20 - (intOf i).toNat)
  case atStart => exact ⟨0, 0, [], 0, 0, 0, 0, none, 0, rfl, by omega, by omega, hu0, ⟨hz0, Rd.empty⟩, .inr ⟨rfl, rfl, rfl, rfl, rfl, rfl⟩⟩
  case round =>
    obtain ⟨k, lg, l, f, ce, at_, le, V, vn, rfl, hk20, hkn, hup, hvb, hok⟩ := hrel
    clear hz0 hu0
    by_cases hlt : k < n
    · by_cases h20 : k < 20
      · obtain ⟨b, o, e, rfl, hek, hed, hcell⟩ := hr.at_ hlt
        have i1 : (k : Int) < (n : Int) := by omega
        have i2 : (k : Int) < 20 := by omega
        obtain ⟨c0, c1, c2, c3, c4, c5, c6⟩ := hcell wr hup
        go_wp2_with fail
        clear c0 c1 c2 c3 c4 c5 c6
        refine (few_any e.D e.dn e.dc e.A e.an e.ac e.lg e.f e.ce e.at_ e.le wr).mono ?_
        rintro e2 w2 ⟨rfl, hu2⟩
        by_cases hfew : e.dn ≤ 60 ∧ e.an ≤ 60
        · have hfb : decide (e.dn ≤ 60 ∧ e.an ≤ 60) = true := by simp; omega
          rw [hfb]
          clear hfb
          have hvb2 := hvb.up hu2
          have hup2 := hup.trans hu2
          have hvl := hvb2.lt
          have hvn := hvb2.len
          have hvn40 : vn ≤ 40 := by
            rw [hvn]
            rcases hok.out with h | ⟨_, h, _⟩
            · exact ((viewOk_iff _ _ _ _ _ _).1 h).2.1
            · rw [h]; simp
          have HVN := Lib.hid hvn
          clear hvn hvb
          have hS : ∀ W, Up w2 W → Up w2 W ∧ (W.cell? ⟨gv, 0, none⟩ = some (.int .i64 lg) ∧ W.cell? ⟨gv, 1, none⟩ = some (.slice V vn vn) ∧ W.cell? ⟨gv, 2, none⟩ = some (.int .u64 (f : Int)) ∧ W.cell? ⟨gv, 3, none⟩ = some (.int .u64 (ce : Int)) ∧ W.cell? ⟨gv, 4, none⟩ = some (.int .u64 (at_ : Int)) ∧ W.cell? ⟨gv, 5, none⟩ = some (.int .u64 (le : Int))) ∧
              (W.cell? ⟨b, o + k * 7, none⟩ = some (.slice e.D e.dn e.dc) ∧ W.cell? ⟨b, o + k * 7 + 1, none⟩ = some (.slice e.A e.an e.ac) ∧ W.cell? ⟨b, o + k * 7 + 2, none⟩ = some (.int .i64 e.lg) ∧
      W.cell? ⟨b, o + k * 7 + 3, none⟩ = some (.int .u64 (e.f : Int)) ∧ W.cell? ⟨b, o + k * 7 + 4, none⟩ = some (.int .u64 (e.ce : Int)) ∧ W.cell? ⟨b, o + k * 7 + 5, none⟩ = some (.int .u64 (e.at_ : Int)) ∧ W.cell? ⟨b, o + k * 7 + 6, none⟩ = some (.int .u64 (e.le : Int))) := fun W h => by
            have hb2 := (hvb2.up h).blk
            exact ⟨h, ⟨blk_cell hb2 0, blk_cell hb2 1, blk_cell hb2 2, blk_cell hb2 3, blk_cell hb2 4, blk_cell hb2 5⟩, hcell W (hup2.trans h)⟩
          have hap := fun W (h : Up w2 W) => apply_any lg V vn vn l f ce at_ le e.D e.dn e.dc e.ds e.A e.an e.ac e.add e.lg e.f e.ce e.at_ e.le W (hvb2.rd.up h) (by omega) (hed.rd.up (hup2.trans h)) (by omega) (hed.ra.up (hup2.trans h)) (by omega)
          obtain ⟨r, hr0⟩ : ∃ r, r = applyR lg l f ce at_ le e.ds e.add e.lg e.f e.ce e.at_ e.le := ⟨_, rfl⟩
          rw [← hr0] at hap
          have HR0 := Lib.hid hr0
          clear hr0
          cases r with
          | none =>
            go_wp2_with fail
            apply Rg.region_up _ (by kernel_rfl) (by kernel_rfl) hS
            · intro QN hQN
              iterate 5 (apply Rg.RK.ok; (· intro vs w1 hS; go_simp; with_reducible rfl); (· rfl); simp only [Act.put, List.setIfInBounds_toArray, List.set_cons_zero, List.set_cons_succ, Nat.reduceAdd])
              apply Rg.RK.call (.tuple #[.agg #[.int .i64 0, .slice none 0 0, .int .u64 0, .int .u64 0, .int .u64 0, .int .u64 0], .bool false]) []
              · rfl
              · intro vs w1 hK hS _ K hKK
                go_simp
                refine (hap _ hS.1).mono ?_
                rintro e w2 ⟨rfl, hu2⟩
                exact hKK.out _ hu2
              simp only [Act.put, List.setIfInBounds_toArray, List.set_cons_zero, List.set_cons_succ, Nat.reduceAdd]
              iterate 3 (apply Rg.RK.ok; (· intro vs w1 hS; go_simp; with_reducible rfl); (· rfl); simp only [Act.put, List.setIfInBounds_toArray, List.set_cons_zero, List.set_cons_succ, Nat.reduceAdd])
              apply Rg.RK.opn (fun v W => ∃ g, v = .pointer (some ⟨g, 0, none⟩) ∧ W.heap[g]? = some (.cells #[.int .i64 0, .slice none 0 0, .int .u64 0, .int .u64 0, .int .u64 0, .int .u64 0] 27 (0, 0))) Rg.ob [] []
              · rintro v W1 W2 ⟨g, rfl, hh⟩ hs
                exact ⟨g, rfl, (hs.block g (Array.getElem?_eq_some_iff.1 hh).1 (.inr rfl)).trans hh⟩
              · rfl
              · intro vs w1 hK hS _ K hKK
                go_simp
                exact hKK.out _ _ ⟨w1.heap.size, rfl, heap_alloc_new w1 _⟩ (Rg.Keeps.of_up ((Up.refl _).alloc _)) (by rintro g rfl; exact ⟨by simp, .inl (Nat.le_refl _)⟩)
              simp only [Act.put, List.setIfInBounds_toArray, List.set_cons_zero, List.set_cons_succ, Nat.reduceAdd]
              apply Rg.RK.opD (fun vs W => ∃ g, vs 9 = .pointer (some ⟨g, 0, none⟩) ∧ W.heap[g]? = some (.cells #[.int .i64 0, .slice none 0 0, .int .u64 0, .int .u64 0, .int .u64 0, .int .u64 0] 27 (0, 0))) (fun vs => Rg.ob (vs 9)) [9] [9] [9] (fun vs vs' h => by rw [h 9 (by simp)]; exact ⟨rfl, rfl⟩)
              · rintro vs W1 W2 ⟨g, h2, hh⟩ hs
                exact ⟨g, h2, (hs.block g (Array.getElem?_eq_some_iff.1 hh).1 (.inr (by rw [h2]; rfl))).trans hh⟩
              · rfl
              · intro vs w1 hK hS hf K hKK
                obtain ⟨h9, -⟩ := hf
                obtain ⟨g, hv9, hh⟩ := h9
                (try dsimp only at hKK ⊢)
                rw [hv9] at hKK ⊢
                have HV9 := Lib.hid hv9
                clear hv9
                have t0 := blk_cell hh 0
                have s0 := blk_free hh 0
                have t1 := blk_cell hh 1
                have s1 := blk_free hh 1
                have t2 := blk_cell hh 2
                have s2 := blk_free hh 2
                have t3 := blk_cell hh 3
                have s3 := blk_free hh 3
                have t4 := blk_cell hh 4
                have s4 := blk_free hh 4
                have t5 := blk_cell hh 5
                have s5 := blk_free hh 5
                have h6 := set6 w1 g _ _ _ _ _ _ (.int .i64 0) (.slice none 0 0) (.int .u64 0) (.int .u64 0) (.int .u64 0) (.int .u64 0) _ hh
                go_simp
                refine hKK.out undef _ ⟨g, by rw [Rg.upd_ne _ _ (by decide)]; exact HV9.out, h6.1⟩ (Keeps.weak h6.2 fun y hy => ⟨9, List.mem_singleton.2 rfl, ?_⟩) (fun y hy => ⟨?_, .inr ⟨9, List.mem_singleton.2 rfl, ?_⟩⟩)
                · show Rg.ob (vs 9) y
                  rw [HV9.out]; exact hy.symm
                · have hy' : Rg.ob (vs 9) y := by simpa only [Rg.upd_ne _ _ (show 9 ≠ 10 by decide)] using hy
                  rw [HV9.out] at hy'
                  have hgy : g = y := hy'
                  rw [← hgy]; exact (Array.getElem?_eq_some_iff.1 h6.1).1
                · have hy' : Rg.ob (vs 9) y := by simpa only [Rg.upd_ne _ _ (show 9 ≠ 10 by decide)] using hy
                  exact hy'
              simp only [Act.put, List.setIfInBounds_toArray, List.set_cons_zero, List.set_cons_succ, Nat.reduceAdd]
              (apply Rg.RK.ok; (· intro vs w1 hS; go_simp; with_reducible rfl); (· rfl); simp only [Act.put, List.setIfInBounds_toArray, List.set_cons_zero, List.set_cons_succ, Nat.reduceAdd])
              apply Rg.RK.fin [10]
              intro vs w8 hK hS hf
              obtain ⟨h10, -⟩ := hf
              obtain ⟨g8, hv9, hh8⟩ := h10
              refine hQN.out _ _ ?_
              clear hQN
              rw [hv9]
              have hu8 := keeps_up hK
              have hup8 := hup2.trans hu8
              have hvb8 := hvb2.up hu8
              clear hS hK hv9
              go_wp2_with fail
              go_roundw
              case rel => exact ⟨k + 1, lg, l, f, ce, at_, le, V, vn, by go_num, by omega, by omega, hup8, hvb8, hok⟩
              case measure => simp [intOf]; omega
            · kernel_rfl
          | some x =>
            go_wp2_with fail
            apply Rg.region_up _ (by kernel_rfl) (by kernel_rfl) hS
            · intro QN hQN
              iterate 5 (apply Rg.RK.ok; (· intro vs w1 hS; go_simp; with_reducible rfl); (· rfl); simp only [Act.put, List.setIfInBounds_toArray, List.set_cons_zero, List.set_cons_succ, Nat.reduceAdd])
              apply Rg.RK.opn (GT x x.2.1.length w2.heap.size) (OwnT x x.2.1.length) [] []
              · exact fun v W1 W2 h hs => h.sta hs
              · rfl
              · intro vs w1 hK hS _ K hKK
                have hsz1 := hK.size
                go_simp
                refine (hap _ hS.1).mono ?_
                intro e w2 hp
                obtain ⟨R, rn, rfl, hrd, hu2, hfr⟩ := hp
                have hrn : rn = x.2.1.length := hrd.flen
                subst hrn
                refine hKK.out _ _ ⟨R, rfl, hrd, fun a ha => Nat.le_trans hsz1 (hfr a ha).1⟩ (Rg.Keeps.of_up hu2) ?_
                rintro g ⟨o, s, he⟩
                have hR := TT_inj he
                have hfr2 := hfr _ hR
                exact ⟨hfr2.2, .inl hfr2.1⟩
              simp only [Act.put, List.setIfInBounds_toArray, List.set_cons_zero, List.set_cons_succ, Nat.reduceAdd]
              apply Rg.RK.opD (fun vs W => vs 6 = vs 5) (fun _ _ => False) [] [] [5] (fun vs vs' h => by rw [h 6 (by simp), h 5 (by simp)]; exact ⟨rfl, rfl⟩)
              · exact fun _ _ _ h _ => h
              · rfl
              · intro vs w1 hK hS _ K hKK
                go_simp
                refine hKK.out _ _ ?_ (Rg.Keeps.refl _ _) (fun g hg => hg.elim)
                rw [Rg.upd_same, Rg.upd_ne _ _ (by decide)]
              simp only [Act.put, List.setIfInBounds_toArray, List.set_cons_zero, List.set_cons_succ, Nat.reduceAdd]
              apply Rg.RK.opD (fun vs W => ∃ R, vs 5 = TT x R x.2.1.length ∧ vs 7 = TV x R x.2.1.length) (fun _ _ => False) [5, 6] [] [5] (fun vs vs' h => by rw [h 7 (by simp), h 5 (by simp)]; exact ⟨rfl, rfl⟩)
              · exact fun _ _ _ h _ => h
              · rfl
              · intro vs w1 hK hS hf K hKK
                obtain ⟨hg, hm, -⟩ := hf
                obtain ⟨R, hv, -⟩ := hg
                have hm2 : vs 6 = TT x R x.2.1.length := Eq.trans hm hv
                (try dsimp only at hKK ⊢)
                rw [hm2] at hKK ⊢
                have HV := Lib.hid hv
                clear hv hm hm2
                unfold TT at hKK ⊢
                go_simp
                exact hKK.out _ _ ⟨R, by rw [Rg.upd_ne _ _ (by decide)]; exact HV.out, by rw [Rg.upd_same]⟩ (Rg.Keeps.refl _ _) (fun g hg => hg.elim)
              simp only [Act.put, List.setIfInBounds_toArray, List.set_cons_zero, List.set_cons_succ, Nat.reduceAdd]
              apply Rg.RK.okU [5, 6] (v := .bool true)
              · intro vs w1 hS hf
                obtain ⟨hg, hm, -⟩ := hf
                obtain ⟨R, hv, -⟩ := hg
                have hm2 : vs 6 = TT x R x.2.1.length := Eq.trans hm hv
                (try dsimp only)
                rw [hm2]
                clear hv hm hm2
                unfold TT
                go_simp
              · rfl
              simp only [Act.put, List.setIfInBounds_toArray, List.set_cons_zero, List.set_cons_succ, Nat.reduceAdd]
              apply Rg.RK.opn (fun v W => ∃ g, v = .pointer (some ⟨g, 0, none⟩) ∧ W.heap[g]? = some (.cells #[.int .i64 0, .slice none 0 0, .int .u64 0, .int .u64 0, .int .u64 0, .int .u64 0] 27 (0, 0))) Rg.ob [] []
              · rintro v W1 W2 ⟨g, rfl, hh⟩ hs
                exact ⟨g, rfl, (hs.block g (Array.getElem?_eq_some_iff.1 hh).1 (.inr rfl)).trans hh⟩
              · rfl
              · intro vs w1 hK hS _ K hKK
                go_simp
                exact hKK.out _ _ ⟨w1.heap.size, rfl, heap_alloc_new w1 _⟩ (Rg.Keeps.of_up ((Up.refl _).alloc _)) (by rintro g rfl; exact ⟨by simp, .inl (Nat.le_refl _)⟩)
              simp only [Act.put, List.setIfInBounds_toArray, List.set_cons_zero, List.set_cons_succ, Nat.reduceAdd]
              apply Rg.RK.opD (fun vs W => ∃ R g, vs 5 = TT x R x.2.1.length ∧ vs 9 = .pointer (some ⟨g, 0, none⟩) ∧ W.heap[g]? = some (.cells #[.int .i64 x.1, .slice R x.2.1.length x.2.1.length, .int .u64 (x.2.2.1 : Int), .int .u64 (x.2.2.2.1 : Int), .int .u64 (x.2.2.2.2.1 : Int), .int .u64 (x.2.2.2.2.2 : Int)] 27 (0, 0))) (fun vs => Rg.ob (vs 9)) [7, 9] [9] [5, 9] (fun vs vs' h => by rw [h 5 (by simp), h 9 (by simp)]; exact ⟨rfl, rfl⟩)
              · rintro vs W1 W2 ⟨R, g, h1, h2, hh⟩ hs
                exact ⟨R, g, h1, h2, (hs.block g (Array.getElem?_eq_some_iff.1 hh).1 (.inr (by rw [h2]; rfl))).trans hh⟩
              · rfl
              · intro vs w1 hK hS hf K hKK
                obtain ⟨h7, h9, -⟩ := hf
                obtain ⟨R, hv5, hv7⟩ := h7
                obtain ⟨g, hv9, hh⟩ := h9
                (try dsimp only at hKK ⊢)
                rw [hv7, hv9] at hKK ⊢
                have HV5 := Lib.hid hv5
                have HV9 := Lib.hid hv9
                clear hv5 hv7 hv9
                have t0 := blk_cell hh 0
                have s0 := blk_free hh 0
                have t1 := blk_cell hh 1
                have s1 := blk_free hh 1
                have t2 := blk_cell hh 2
                have s2 := blk_free hh 2
                have t3 := blk_cell hh 3
                have s3 := blk_free hh 3
                have t4 := blk_cell hh 4
                have s4 := blk_free hh 4
                have t5 := blk_cell hh 5
                have s5 := blk_free hh 5
                have h6 := set6 w1 g _ _ _ _ _ _ (.int .i64 x.1) (.slice R x.2.1.length x.2.1.length) (.int .u64 (x.2.2.1 : Int)) (.int .u64 (x.2.2.2.1 : Int)) (.int .u64 (x.2.2.2.2.1 : Int)) (.int .u64 (x.2.2.2.2.2 : Int)) _ hh
                unfold TV at hKK ⊢
                go_simp
                refine hKK.out undef _ ⟨R, g, by rw [Rg.upd_ne _ _ (by decide)]; exact HV5.out, by rw [Rg.upd_ne _ _ (by decide)]; exact HV9.out, h6.1⟩ (Keeps.weak h6.2 fun y hy => ⟨9, List.mem_singleton.2 rfl, ?_⟩) (fun y hy => ⟨?_, .inr ⟨9, List.mem_singleton.2 rfl, ?_⟩⟩)
                · show Rg.ob (vs 9) y
                  rw [HV9.out]; exact hy.symm
                · have hy' : Rg.ob (vs 9) y := by simpa only [Rg.upd_ne _ _ (show 9 ≠ 10 by decide)] using hy
                  rw [HV9.out] at hy'
                  have hgy : g = y := hy'
                  rw [← hgy]; exact (Array.getElem?_eq_some_iff.1 h6.1).1
                · have hy' : Rg.ob (vs 9) y := by simpa only [Rg.upd_ne _ _ (show 9 ≠ 10 by decide)] using hy
                  exact hy'
              simp only [Act.put, List.setIfInBounds_toArray, List.set_cons_zero, List.set_cons_succ, Nat.reduceAdd]
              (apply Rg.RK.ok; (· intro vs w1 hS; go_simp; with_reducible rfl); (· rfl); simp only [Act.put, List.setIfInBounds_toArray, List.set_cons_zero, List.set_cons_succ, Nat.reduceAdd])
              apply Rg.RK.fin [5, 6, 7, 10]
              intro vs w8 hK hS hf
              obtain ⟨h5, h6, h7, h10, -⟩ := hf
              refine hQN.out _ _ ?_
              clear hQN
              obtain ⟨R, hv5, hrd8, hfr8⟩ := h5
              obtain ⟨R7, hw5, hv7⟩ := h7
              obtain ⟨R10, g8, hx5, hv9, hh8⟩ := h10
              have hv6 : vs 6 = TT x R x.2.1.length := Eq.trans h6 hv5
              have e7 : R = R7 := TT_inj (hv5.symm.trans hw5)
              have e10 : R = R10 := TT_inj (hv5.symm.trans hx5)
              subst e7
              subst e10
              (try dsimp only)
              rw [hv9, hv7, hv6, hv5]
              have hu8 := keeps_up hK
              have hup8 := hup2.trans hu8
              have hvb8 := hvb2.up hu8
              have hx := apply_ok HR0.out.symm
              have HX := Lib.hid hx
              clear hS hK hv5 hv6 hv7 hv9 hw5 hx5 h6 hx
              unfold TT TV
              have hb8 := hvb8.blk
              have t0 := blk_cell hb8 0
              have s0 := blk_free hb8 0
              have q0 := blk_cell hh8 0
              have t1 := blk_cell hb8 1
              have s1 := blk_free hb8 1
              have q1 := blk_cell hh8 1
              have t2 := blk_cell hb8 2
              have s2 := blk_free hb8 2
              have q2 := blk_cell hh8 2
              have t3 := blk_cell hb8 3
              have s3 := blk_free hb8 3
              have q3 := blk_cell hh8 3
              have t4 := blk_cell hb8 4
              have s4 := blk_free hb8 4
              have q4 := blk_cell hh8 4
              have t5 := blk_cell hb8 5
              have s5 := blk_free hb8 5
              have q5 := blk_cell hh8 5
              have h6 := set6 w8 gv _ _ _ _ _ _ (.int .i64 x.1) (.slice R x.2.1.length x.2.1.length) (.int .u64 (x.2.2.1 : Int)) (.int .u64 (x.2.2.2.1 : Int)) (.int .u64 (x.2.2.2.2.1 : Int)) (.int .u64 (x.2.2.2.2.2 : Int)) _ hb8
              have hrd9 := hrd8.keepsNe (Nat.le_refl _) (g := gv) (fun a ha => by have := hfr8 a ha; omega) h6.2
              have hup9 := keepsUp hup8 (Nat.le_of_eq hgvE) h6.2
              go_wp2_with fail
              clear t0 s0 q0 t1 s1 q1 t2 s2 q2 t3 s3 q3 t4 s4 q4 t5 s5 q5
              generalize (((((w8.setCell ⟨gv, 0, none⟩ (.int .i64 x.1)).setCell ⟨gv, 1, none⟩ (.slice R x.2.1.length x.2.1.length)).setCell ⟨gv, 2, none⟩ (.int .u64 (x.2.2.1 : Int))).setCell ⟨gv, 3, none⟩ (.int .u64 (x.2.2.2.1 : Int))).setCell ⟨gv, 4, none⟩ (.int .u64 (x.2.2.2.2.1 : Int))).setCell ⟨gv, 5, none⟩ (.int .u64 (x.2.2.2.2.2 : Int)) = w9 at *
              go_roundw
              case rel => exact ⟨k + 1, x.1, x.2.1, x.2.2.1, x.2.2.2.1, x.2.2.2.2.1, x.2.2.2.2.2, R, x.2.1.length, by go_num, by omega, by omega, hup9, ⟨h6.1, hrd9⟩, .inl HX.out⟩
              case measure => simp [intOf]; omega
            · kernel_rfl
        · have hfb : decide (e.dn ≤ 60 ∧ e.an ≤ 60) = false := by simp; omega
          rw [hfb]
          clear hfb
          go_wp2_with (go_at_call 11; with_reducible refine (awake15_any _).mono ?_; rintro e w7 ⟨rfl, hu7⟩)
          go_ret
          exact ⟨rfl, (hup.trans hu2).trans hu7⟩
      · have h20e : k = 20 := by omega
        subst h20e
        have i1 : (20 : Int) < (n : Int) := by omega
        have hvn := hvb.len
        have hvn40 : vn ≤ 40 := by
          rw [hvn]
          rcases hok.out with h | ⟨_, h, _⟩
          · exact ((viewOk_iff _ _ _ _ _ _).1 h).2.1
          · rw [h]; simp
        have HVN := Lib.hid hvn
        clear hvn
        have t0 := blk_cell hvb.blk 0
        have t1 := blk_cell hvb.blk 1
        have t2 := blk_cell hvb.blk 2
        have t3 := blk_cell hvb.blk 3
        have t4 := blk_cell hvb.blk 4
        have t5 := blk_cell hvb.blk 5
        go_wp2_with fail
        clear t0 t1 t2 t3 t4 t5
        refine (vok_any lg V vn vn l f ce at_ le wr hvb.rd (Nat.le_refl _) (by omega)).mono ?_
        rintro e w2 ⟨rfl, hu2⟩
        have hvb2 := hvb.up hu2
        have hup2 := hup.trans hu2
        clear hvb hup hu2
        cases hvo : viewOk lg l f ce at_ le
        · have hvn0 : vn = 0 := by
            rw [HVN.out]
            rcases hok.out with h | ⟨_, h, _⟩
            · rw [hvo] at h; cases h
            · rw [h]; rfl
          subst hvn0
          clear hvo
          have t1 := blk_cell hvb2.blk 1
          go_wp2_with (go_at_call 11; with_reducible refine (awake15_any _).mono ?_; rintro e w7 ⟨rfl, hu7⟩)
          go_ret
          exact ⟨rfl, hup2.trans hu7⟩
        · have HVO := Lib.hid hvo
          clear hvo hok
          have hvb := hvb2
          have t0 := blk_cell hvb.blk 0
          have t1 := blk_cell hvb.blk 1
          have t2 := blk_cell hvb.blk 2
          have t3 := blk_cell hvb.blk 3
          have t4 := blk_cell hvb.blk 4
          have t5 := blk_cell hvb.blk 5
          go_wp2_with fail
          clear t0 t1 t2 t3 t4 t5 hvb
          refine (whole_any lg V vn vn l f ce at_ le w2 hvb2.rd (by omega)).mono ?_
          rintro e w3 ⟨R3, rc3, rfl, hrd3, hu3⟩
          go_wp2_with fail
          refine (apply_any 0 none 0 0 [] 0 0 0 0 none 0 0 [] R3 vn rc3 l lg f ce at_ le w3 Rd.empty (by omega) Rd.empty (by omega) hrd3 (by omega)).mono ?_
          intro e w4 hp
          rw [apply_whole HVO.out] at hp
          obtain ⟨R4, rn4, rfl, hrd4, hu4, -⟩ := hp
          have hrn : rn4 = vn := by rw [hrd4.flen, HVN.out]
          subst hrn
          have hvb4 := hvb2.up (hu3.trans hu4)
          have hup4 := hup2.trans (hu3.trans hu4)
          clear hvb2 hrd3 hu3 hu4 hup2
          (try dsimp only)
          (try dsimp only at hrd4)
          have hgw : (w4.alloc (.cells #[.int .i64 lg, .slice R4 rn4 rn4, .int .u64 (f : Int), .int .u64 (ce : Int), .int .u64 (at_ : Int), .int .u64 (le : Int)] 27)).heap[w4.heap.size]? = some (.cells #[.int .i64 lg, .slice R4 rn4 rn4, .int .u64 (f : Int), .int .u64 (ce : Int), .int .u64 (at_ : Int), .int .u64 (le : Int)] 27 (0, 0)) := heap_alloc_new _ _
          have hu5 : Up w4 (w4.alloc (.cells #[.int .i64 lg, .slice R4 rn4 rn4, .int .u64 (f : Int), .int .u64 (ce : Int), .int .u64 (at_ : Int), .int .u64 (le : Int)] 27)) := (Up.refl w4).alloc _
          have hvb := hvb4.up hu5
          have hvw : VB lg l f ce at_ le w4.heap.size R4 rn4 (w4.alloc (.cells #[.int .i64 lg, .slice R4 rn4 rn4, .int .u64 (f : Int), .int .u64 (ce : Int), .int .u64 (at_ : Int), .int .u64 (le : Int)] 27)) := ⟨hgw, hrd4.up hu5⟩
          have hup5 := hup4.trans hu5
          have t0 := blk_cell hvb.blk 0
          have t1 := blk_cell hvb.blk 1
          have t2 := blk_cell hvb.blk 2
          have t3 := blk_cell hvb.blk 3
          have t4 := blk_cell hvb.blk 4
          have t5 := blk_cell hvb.blk 5
          have u0 := blk_cell hgw 0
          have u1 := blk_cell hgw 1
          have u2 := blk_cell hgw 2
          have u3 := blk_cell hgw 3
          have u4 := blk_cell hgw 4
          have u5 := blk_cell hgw 5
          go_wp2_with fail
          clear t0 t1 t2 t3 t4 t5 u0 u1 u2 u3 u4 u5 hgw hvb4 hup4 hrd4
          generalize w4.alloc (.cells #[.int .i64 lg, .slice R4 rn4 rn4, .int .u64 (f : Int), .int .u64 (ce : Int), .int .u64 (at_ : Int), .int .u64 (le : Int)] 27) = w5 at *
          clear hu5
          generalize w4.heap.size = gw at *
          have hsv : sameV lg l f ce at_ le lg l f ce at_ le = true := by unfold sameV; simp
          have HSV := Lib.hid hsv
          clear hsv
          refine (sameView_any lg V rn4 rn4 l f ce at_ le lg R4 rn4 rn4 l f ce at_ le w5 hvb.rd hvw.rd (by omega) (by omega)).mono ?_
          rintro e w6 ⟨rfl, hu6⟩
          rw [HSV.out]
          have hvb6 := hvb.up hu6
          have hvw6 := hvw.up hu6
          have hup6 := hup5.trans hu6
          clear hvb hvw hup5 hu6
          have t0 := blk_cell hvb6.blk 0
          have t1 := blk_cell hvb6.blk 1
          have t2 := blk_cell hvb6.blk 2
          have t3 := blk_cell hvb6.blk 3
          have t4 := blk_cell hvb6.blk 4
          have t5 := blk_cell hvb6.blk 5
          have u0 := blk_cell hvw6.blk 0
          have u1 := blk_cell hvw6.blk 1
          have u2 := blk_cell hvw6.blk 2
          have u3 := blk_cell hvw6.blk 3
          have u4 := blk_cell hvw6.blk 4
          have u5 := blk_cell hvw6.blk 5
          go_wp2_with fail
          clear t0 t1 t2 t3 t4 t5 u0 u1 u2 u3 u4 u5
          refine (same_any lg V rn4 rn4 l f ce at_ le lg R4 rn4 rn4 l f ce at_ le w6 hvb6.rd hvw6.rd (by omega) (by omega)).mono ?_
          rintro e w7 ⟨rfl, hu7⟩
          rw [HSV.out]
          have hvb7 := hvb6.up hu7
          have hup7 := hup6.trans hu7
          clear hvb6 hvw6 hup6 hu7
          have t1 := blk_cell hvb7.blk 1
          by_cases hz : rn4 = 0
          · subst hz
            go_wp2_with (go_at_call 11; with_reducible refine (awake15_any _).mono ?_; rintro e w8 ⟨rfl, hu8⟩)
            go_ret
            exact ⟨rfl, hup7.trans hu8⟩
          · obtain ⟨C, hC, _⟩ := i64_and_le which 255 (by omega)
            replace hC : bits .and .i64 which 255 = (C : Int) := hC
            obtain ⟨K, hK, hKn⟩ : ∃ K : Nat, (C : Int) % (rn4 : Int) = (K : Int) ∧ K < rn4 := ⟨C % rn4, by rw [Int.natCast_emod], Nat.mod_lt C (by omega)⟩
            have hz1 : ¬ ((rn4 : Int) = 0) := by omega
            have hKi : (K : Int) < (rn4 : Int) := by omega
            have hzb : ((rn4 : Int) == 0) = false := by simp; omega
            obtain ⟨bV, oV, fx, rfl, hbV, hfx, d0, d1⟩ := hvb7.rd.file_at hKn
            obtain ⟨x1, x2⟩ := fx
            (try dsimp only at d0 d1)
            have hKl : K < l.length := by have := HVN.out; omega
            rw [List.getElem?_eq_getElem hKl] at hfx
            injection hfx with hfx
            have HFX := Lib.hid hfx
            clear hfx
            have hfb : (w7.alloc (.cells #[.int .i64 x1, .int .i64 x2] 41)).heap[w7.heap.size]? = some (.cells #[.int .i64 x1, .int .i64 x2] 41 (0, 0)) := heap_alloc_new _ _
            have hu8 : Up w7 (w7.alloc (.cells #[.int .i64 x1, .int .i64 x2] 41)) := (Up.refl w7).alloc _
            have hvb8 := hvb7.up hu8
            have t0 := blk_cell hvb8.blk 0
            have t1 := blk_cell hvb8.blk 1
            have t2 := blk_cell hvb8.blk 2
            have t3 := blk_cell hvb8.blk 3
            have t4 := blk_cell hvb8.blk 4
            have t5 := blk_cell hvb8.blk 5
            have u0 := blk_cell hfb 0
            have u1 := blk_cell hfb 1
            have hi8 := Rd.made (sz := 1) (n := 1) (w7.alloc (.cells #[.int .i64 x1, .int .i64 x2] 41)) #[.int .i64 x2] 3 rfl
            have hf8 := Rd.made (sz := 2) (n := 1) ((w7.alloc (.cells #[.int .i64 x1, .int .i64 x2] 41)).alloc (.cells #[.int .i64 x2] 3)) #[.int .i64 x1, .int .i64 x2] 41 rfl
            have hu9 : Up (w7.alloc (.cells #[.int .i64 x1, .int .i64 x2] 41)) (((w7.alloc (.cells #[.int .i64 x1, .int .i64 x2] 41)).alloc (.cells #[.int .i64 x2] 3)).alloc (.cells #[.int .i64 x1, .int .i64 x2] 41)) := ((Up.refl _).alloc _).alloc _
            have hu9i : Up ((w7.alloc (.cells #[.int .i64 x1, .int .i64 x2] 41)).alloc (.cells #[.int .i64 x2] 3)) (((w7.alloc (.cells #[.int .i64 x1, .int .i64 x2] 41)).alloc (.cells #[.int .i64 x2] 3)).alloc (.cells #[.int .i64 x1, .int .i64 x2] 41)) := (Up.refl _).alloc _
            have hi9 := hi8.up hu9i
            rw [World.size_alloc w7] at hi9
            rw [show ((w7.alloc (.cells #[.int .i64 x1, .int .i64 x2] 41)).alloc (.cells #[.int .i64 x2] 3)).heap.size = w7.heap.size + 1 + 1 by simp] at hf8
            have hvb9 := hvb8.up hu9
            have hfb9 := (hu9.block _ (Array.getElem?_eq_some_iff.1 hfb).1).trans hfb
            have hup9 := (hup7.trans hu8).trans hu9
            go_wp2_with fail
            clear t0 t1 t2 t3 t4 t5 u0 u1 d0 d1 hbV hfb hvb8 hvb7 hup7 hi8 hu9i
            generalize ((w7.alloc (.cells #[.int .i64 x1, .int .i64 x2] 41)).alloc (.cells #[.int .i64 x2] 3)).alloc (.cells #[.int .i64 x1, .int .i64 x2] 41) = w8 at *
            clear hu8 hu9
            generalize w7.heap.size = gf at *
            have hback := apply_back HVO.out hKl
            rw [HFX.out] at hback
            have HBK := Lib.hid hback
            have htw := apply_twice HVO.out hKl
            rw [HFX.out] at htw
            have HTW := Lib.hid htw
            have hag := apply_again (lg := lg) (f := f) (ce := ce) (at_ := at_) (le := le) hKl
            rw [HFX.out] at hag
            have HAG := Lib.hid hag
            clear hback htw hag
            refine (apply_any lg (some ⟨bV, oV, none⟩) rn4 rn4 l f ce at_ le (some ⟨gf + 1, 0, none⟩) 1 1 [x2] (some ⟨gf + 1 + 1, 0, none⟩) 1 1 [(x1, x2)] 0 0 0 0 0 w8 hvb9.rd (by omega) hi9 (by omega) hf8 (by omega)).mono ?_
            intro e w9 hp
            rw [HBK.out] at hp
            obtain ⟨R9, rn9, rfl, hrd9, hu9, -⟩ := hp
            (try dsimp only at hrd9)
            have hrn9 : rn9 = rn4 := by
              have h1 := hrd9.flen
              rw [(erase_len l hKl)] at h1
              rw [h1, HVN.out]
            subst hrn9
            (try dsimp only)
            have hvb10 := hvb9.up hu9
            have hfb10 := (hu9.block _ (Array.getElem?_eq_some_iff.1 hfb9).1).trans hfb9
            have hup10 := hup9.trans hu9
            clear hvb9 hfb9 hup9 hu9 hi9 hf8
            have hgx : (w9.alloc (.cells #[.int .i64 lg, .slice R9 rn9 rn9, .int .u64 (f : Int), .int .u64 (ce : Int), .int .u64 (at_ : Int), .int .u64 (le : Int)] 27)).heap[w9.heap.size]? = some (.cells #[.int .i64 lg, .slice R9 rn9 rn9, .int .u64 (f : Int), .int .u64 (ce : Int), .int .u64 (at_ : Int), .int .u64 (le : Int)] 27 (0, 0)) := heap_alloc_new _ _
            have hu11 : Up w9 (w9.alloc (.cells #[.int .i64 lg, .slice R9 rn9 rn9, .int .u64 (f : Int), .int .u64 (ce : Int), .int .u64 (at_ : Int), .int .u64 (le : Int)] 27)) := (Up.refl w9).alloc _
            have hvb11 := hvb10.up hu11
            have hfb11 := (hu11.block _ (Array.getElem?_eq_some_iff.1 hfb10).1).trans hfb10
            have hrd11 := hrd9.up hu11
            have t0 := blk_cell hvb11.blk 0
            have t1 := blk_cell hvb11.blk 1
            have t2 := blk_cell hvb11.blk 2
            have t3 := blk_cell hvb11.blk 3
            have t4 := blk_cell hvb11.blk 4
            have t5 := blk_cell hvb11.blk 5
            have u0 := blk_cell hfb11 0
            have u1 := blk_cell hfb11 1
            have hi11 := Rd.made (sz := 1) (n := 2) (w9.alloc (.cells #[.int .i64 lg, .slice R9 rn9 rn9, .int .u64 (f : Int), .int .u64 (ce : Int), .int .u64 (at_ : Int), .int .u64 (le : Int)] 27)) #[.int .i64 x2, .int .i64 x2] 3 rfl
            rw [World.size_alloc w9] at hi11
            have hu12 : Up (w9.alloc (.cells #[.int .i64 lg, .slice R9 rn9 rn9, .int .u64 (f : Int), .int .u64 (ce : Int), .int .u64 (at_ : Int), .int .u64 (le : Int)] 27)) ((w9.alloc (.cells #[.int .i64 lg, .slice R9 rn9 rn9, .int .u64 (f : Int), .int .u64 (ce : Int), .int .u64 (at_ : Int), .int .u64 (le : Int)] 27)).alloc (.cells #[.int .i64 x2, .int .i64 x2] 3)) := (Up.refl _).alloc _
            have hvb12 := hvb11.up hu12
            have hfb12 := (hu12.block _ (Array.getElem?_eq_some_iff.1 hfb11).1).trans hfb11
            have hgx12 := (hu12.block _ (Array.getElem?_eq_some_iff.1 hgx).1).trans hgx
            have hrd12 := hrd11.up hu12
            have hup12 := (hup10.trans hu11).trans hu12
            go_wp2_with fail
            clear t0 t1 t2 t3 t4 t5 u0 u1 hvb11 hfb11 hgx hrd11 hvb10 hfb10 hrd9 hup10
            generalize (w9.alloc (.cells #[.int .i64 lg, .slice R9 rn9 rn9, .int .u64 (f : Int), .int .u64 (ce : Int), .int .u64 (at_ : Int), .int .u64 (le : Int)] 27)).alloc (.cells #[.int .i64 x2, .int .i64 x2] 3) = w10 at *
            clear hu11 hu12
            generalize w9.heap.size = gx at *
            refine (apply_any lg (some ⟨bV, oV, none⟩) rn9 rn9 l f ce at_ le (some ⟨gx + 1, 0, none⟩) 2 2 [x2, x2] none 0 0 [] 0 0 0 0 0 w10 hvb12.rd (by omega) hi11 (by omega) Rd.empty (by omega)).mono ?_
            intro e w11 hp
            rw [HTW.out] at hp
            obtain ⟨rfl, hu13⟩ := hp
            have hvb13 := hvb12.up hu13
            have hfb13 := (hu13.block _ (Array.getElem?_eq_some_iff.1 hfb12).1).trans hfb12
            have hgx13 := (hu13.block _ (Array.getElem?_eq_some_iff.1 hgx12).1).trans hgx12
            have hrd13 := hrd12.up hu13
            have hup13 := hup12.trans hu13
            clear hvb12 hfb12 hgx12 hrd12 hup12 hu13 hi11
            have hu14 : Up w11 ((w11.alloc (.cells #[.int .i64 0, .slice none 0 0, .int .u64 0, .int .u64 0, .int .u64 0, .int .u64 0] 27)).alloc (.cells #[.int .i64 x1, .int .i64 x2] 41)) := ((Up.refl w11).alloc _).alloc _
            have hu14a : Up w11 (w11.alloc (.cells #[.int .i64 0, .slice none 0 0, .int .u64 0, .int .u64 0, .int .u64 0, .int .u64 0] 27)) := (Up.refl w11).alloc _
            have hvb14a := hvb13.up hu14a
            have hfb14a := (hu14a.block _ (Array.getElem?_eq_some_iff.1 hfb13).1).trans hfb13
            have t0 := blk_cell hvb14a.blk 0
            have t1 := blk_cell hvb14a.blk 1
            have t2 := blk_cell hvb14a.blk 2
            have t3 := blk_cell hvb14a.blk 3
            have t4 := blk_cell hvb14a.blk 4
            have t5 := blk_cell hvb14a.blk 5
            have u0 := blk_cell hfb14a 0
            have u1 := blk_cell hfb14a 1
            have hf14 := Rd.made (sz := 2) (n := 1) (w11.alloc (.cells #[.int .i64 0, .slice none 0 0, .int .u64 0, .int .u64 0, .int .u64 0, .int .u64 0] 27)) #[.int .i64 x1, .int .i64 x2] 41 rfl
            rw [World.size_alloc w11] at hf14
            have hvb14 := hvb13.up hu14
            have hfb14 := (hu14.block _ (Array.getElem?_eq_some_iff.1 hfb13).1).trans hfb13
            have hgx14 := (hu14.block _ (Array.getElem?_eq_some_iff.1 hgx13).1).trans hgx13
            have hrd14 := hrd13.up hu14
            have hup14 := hup13.trans hu14
            go_wp2_with fail
            clear t0 t1 t2 t3 t4 t5 u0 u1 hvb13 hfb13 hgx13 hrd13 hup13 hvb14a hfb14a hu14a
            generalize (w11.alloc (.cells #[.int .i64 0, .slice none 0 0, .int .u64 0, .int .u64 0, .int .u64 0, .int .u64 0] 27)).alloc (.cells #[.int .i64 x1, .int .i64 x2] 41) = w12 at *
            clear hu14
            refine (apply_any lg (some ⟨bV, oV, none⟩) rn9 rn9 l f ce at_ le none 0 0 [] (some ⟨w11.heap.size + 1, 0, none⟩) 1 1 [(x1, x2)] 0 0 0 0 0 w12 hvb14.rd (by omega) Rd.empty (by omega) hf14 (by omega)).mono ?_
            intro e w13 hp
            rw [HAG.out] at hp
            obtain ⟨rfl, hu15⟩ := hp
            have hvb15 := hvb14.up hu15
            have hfb15 := (hu15.block _ (Array.getElem?_eq_some_iff.1 hfb14).1).trans hfb14
            have hgx15 := (hu15.block _ (Array.getElem?_eq_some_iff.1 hgx14).1).trans hgx14
            have hrd15 := hrd14.up hu15
            have hup15 := hup14.trans hu15
            clear hvb14 hfb14 hgx14 hrd14 hup14 hu15 hf14
            go_wp2_with fail
            have hu16a : Up w13 (w13.alloc (.cells #[.int .i64 0, .slice none 0 0, .int .u64 0, .int .u64 0, .int .u64 0, .int .u64 0] 27)) := (Up.refl w13).alloc _
            generalize w13.alloc (.cells #[.int .i64 0, .slice none 0 0, .int .u64 0, .int .u64 0, .int .u64 0, .int .u64 0] 27) = w14 at *
            replace hvb15 := hvb15.up hu16a
            replace hfb15 := (hu16a.block _ (Array.getElem?_eq_some_iff.1 hfb15).1).trans hfb15
            replace hgx15 := (hu16a.block _ (Array.getElem?_eq_some_iff.1 hgx15).1).trans hgx15
            replace hrd15 := hrd15.up hu16a
            replace hup15 := hup15.trans hu16a
            clear hu16a
            obtain ⟨b9, o9, fl9, rfl, hb9, hfl9, e0, e1⟩ := hrd15.file_at (show rn9 - 1 < rn9 by omega)
            have hll : (l.eraseIdx K).length = rn9 - 1 := by rw [List.length_eraseIdx, if_pos hKl]; have := HVN.out; omega
            rw [List.getElem?_append_right (by omega), hll, Nat.sub_self] at hfl9
            have hfl : fl9 = (x1, x2) := by simpa using hfl9.symm
            subst hfl
            (try dsimp only at e0 e1)
            clear hfl9 hll
            have hS : ∀ W, Up w14 W → Up w14 W ∧ W.cell? ⟨gx, 1, none⟩ = some (.slice (some ⟨b9, o9, none⟩) rn9 rn9) ∧ W.cell? ⟨gv, 1, none⟩ = some (.slice (some ⟨bV, oV, none⟩) rn9 rn9) ∧ W.cell? ⟨gf, 0, none⟩ = some (.int .i64 x1) ∧ W.cell? ⟨gf, 1, none⟩ = some (.int .i64 x2) ∧
                W.cell? ⟨b9, o9 + (rn9 - 1) * 2, none⟩ = some (.int .i64 x1) ∧ W.cell? ⟨b9, o9 + (rn9 - 1) * 2 + 1, none⟩ = some (.int .i64 x2) := fun W h => by
              have hv := (hvb15.up h).blk
              have hx := (h.block _ (Array.getElem?_eq_some_iff.1 hgx15).1).trans hgx15
              have hf := (h.block _ (Array.getElem?_eq_some_iff.1 hfb15).1).trans hfb15
              exact ⟨h, blk_cell hx 1, blk_cell hv 1, blk_cell hf 0, blk_cell hf 1, (h.cell (p := ⟨b9, o9 + (rn9 - 1) * 2, none⟩) hb9).trans e0, (h.cell (p := ⟨b9, o9 + (rn9 - 1) * 2 + 1, none⟩) hb9).trans e1⟩
            have v1 : IntKind.i64.wrap ((rn9 : Int) - 1) = (rn9 : Int) - 1 := IntWalk.i64_in _ (by omega)
            have v2 : ((rn9 : Int) - 1).toNat = rn9 - 1 := by omega
            have v3 : (0 : Int) ≤ (rn9 : Int) - 1 := by omega
            have v4 : (rn9 : Int) - 1 < (rn9 : Int) := by omega
            have v5 : (1 : Int) ≤ (rn9 : Int) := by omega
            clear hvb15 hgx15 hfb15 hrd15 e0 e1
            apply Rg.region_up _ (by kernel_rfl) (by kernel_rfl) hS
            · intro QN hQN
              iterate 2 (apply Rg.RK.ok; (· intro vs w1 hS; go_simp; with_reducible rfl); (· rfl); simp only [Act.put, List.setIfInBounds_toArray, List.set_cons_zero, List.set_cons_succ, Nat.reduceAdd])
              iterate 7 (apply Rg.RK.gok (t := 126); (· intro vs w1 hS; go_simp; with_reducible rfl); (· rfl); (· intro vs; rfl); simp only [Act.put, List.setIfInBounds_toArray, List.set_cons_zero, List.set_cons_succ, Nat.reduceAdd])
              iterate 2 (apply Rg.RK.ok; (· intro vs w1 hS; go_simp; with_reducible rfl); (· rfl); simp only [Act.put, List.setIfInBounds_toArray, List.set_cons_zero, List.set_cons_succ, Nat.reduceAdd])
              iterate 10 (apply Rg.RK.gok (t := 135); (· intro vs w1 hS; go_simp; with_reducible rfl); (· rfl); (· intro vs; rfl); simp only [Act.put, List.setIfInBounds_toArray, List.set_cons_zero, List.set_cons_succ, Nat.reduceAdd])
              iterate 2 (apply Rg.RK.ok; (· intro vs w1 hS; go_simp; with_reducible rfl); (· rfl); simp only [Act.put, List.setIfInBounds_toArray, List.set_cons_zero, List.set_cons_succ, Nat.reduceAdd])
              iterate 2 (apply Rg.RK.gok (t := 147); (· intro vs w1 hS; go_simp; with_reducible rfl); (· rfl); (· intro vs; rfl); simp only [Act.put, List.setIfInBounds_toArray, List.set_cons_zero, List.set_cons_succ, Nat.reduceAdd])
              iterate 2 (apply Rg.RK.ok; (· intro vs w1 hS; go_simp; with_reducible rfl); (· rfl); simp only [Act.put, List.setIfInBounds_toArray, List.set_cons_zero, List.set_cons_succ, Nat.reduceAdd])
              iterate 2 (apply Rg.RK.gok (t := 151); (· intro vs w1 hS; go_simp; with_reducible rfl); (· rfl); (· intro vs; rfl); simp only [Act.put, List.setIfInBounds_toArray, List.set_cons_zero, List.set_cons_succ, Nat.reduceAdd])
              iterate 2 (apply Rg.RK.ok; (· intro vs w1 hS; go_simp; with_reducible rfl); (· rfl); simp only [Act.put, List.setIfInBounds_toArray, List.set_cons_zero, List.set_cons_succ, Nat.reduceAdd])
              apply Rg.RK.gcall (t := 155) (.bool true) []
              · rfl
              · intro vs; rfl
              · intro vs w1 hK hS _ K hKK
                go_simp
                refine (awake15_any _).mono ?_
                rintro e w2 ⟨rfl, hu2⟩
                exact hKK.out _ hu2
              simp only [Act.put, List.setIfInBounds_toArray, List.set_cons_zero, List.set_cons_succ, Nat.reduceAdd]
              iterate 2 (apply Rg.RK.ok; (· intro vs w1 hS; go_simp; with_reducible rfl); (· rfl); simp only [Act.put, List.setIfInBounds_toArray, List.set_cons_zero, List.set_cons_succ, Nat.reduceAdd])
              apply Rg.RK.fin []
              intro vs w1 hK hS _
              refine hQN.out _ _ ?_
              clear hQN
              have hu16 := keeps_up hK
              go_wp2_with fail
              go_ret
              exact ⟨rfl, hup15.trans hu16⟩
            · kernel_rfl
    · have i1 : ¬ (k : Int) < (n : Int) := by omega
      have hvn := hvb.len
      have hvn40 : vn ≤ 40 := by
        rw [hvn]
        rcases hok.out with h | ⟨_, h, _⟩
        · exact ((viewOk_iff _ _ _ _ _ _).1 h).2.1
        · rw [h]; simp
      have HVN := Lib.hid hvn
      clear hvn
      have t0 := blk_cell hvb.blk 0
      have t1 := blk_cell hvb.blk 1
      have t2 := blk_cell hvb.blk 2
      have t3 := blk_cell hvb.blk 3
      have t4 := blk_cell hvb.blk 4
      have t5 := blk_cell hvb.blk 5
      go_wp2_with fail
      clear t0 t1 t2 t3 t4 t5
      refine (vok_any lg V vn vn l f ce at_ le wr hvb.rd (Nat.le_refl _) (by omega)).mono ?_
      rintro e w2 ⟨rfl, hu2⟩
      have hvb2 := hvb.up hu2
      have hup2 := hup.trans hu2
      clear hvb hup hu2
      cases hvo : viewOk lg l f ce at_ le
      · have hvn0 : vn = 0 := by
          rw [HVN.out]
          rcases hok.out with h | ⟨_, h, _⟩
          · rw [hvo] at h; cases h
          · rw [h]; rfl
        subst hvn0
        clear hvo
        have t1 := blk_cell hvb2.blk 1
        go_wp2_with (go_at_call 11; with_reducible refine (awake15_any _).mono ?_; rintro e w7 ⟨rfl, hu7⟩)
        go_ret
        exact ⟨rfl, hup2.trans hu7⟩
      · have HVO := Lib.hid hvo
        clear hvo hok
        have hvb := hvb2
        have t0 := blk_cell hvb.blk 0
        have t1 := blk_cell hvb.blk 1
        have t2 := blk_cell hvb.blk 2
        have t3 := blk_cell hvb.blk 3
        have t4 := blk_cell hvb.blk 4
        have t5 := blk_cell hvb.blk 5
        go_wp2_with fail
        clear t0 t1 t2 t3 t4 t5 hvb
        refine (whole_any lg V vn vn l f ce at_ le w2 hvb2.rd (by omega)).mono ?_
        rintro e w3 ⟨R3, rc3, rfl, hrd3, hu3⟩
        go_wp2_with fail
        refine (apply_any 0 none 0 0 [] 0 0 0 0 none 0 0 [] R3 vn rc3 l lg f ce at_ le w3 Rd.empty (by omega) Rd.empty (by omega) hrd3 (by omega)).mono ?_
        intro e w4 hp
        rw [apply_whole HVO.out] at hp
        obtain ⟨R4, rn4, rfl, hrd4, hu4, -⟩ := hp
        have hrn : rn4 = vn := by rw [hrd4.flen, HVN.out]
        subst hrn
        have hvb4 := hvb2.up (hu3.trans hu4)
        have hup4 := hup2.trans (hu3.trans hu4)
        clear hvb2 hrd3 hu3 hu4 hup2
        (try dsimp only)
        (try dsimp only at hrd4)
        have hgw : (w4.alloc (.cells #[.int .i64 lg, .slice R4 rn4 rn4, .int .u64 (f : Int), .int .u64 (ce : Int), .int .u64 (at_ : Int), .int .u64 (le : Int)] 27)).heap[w4.heap.size]? = some (.cells #[.int .i64 lg, .slice R4 rn4 rn4, .int .u64 (f : Int), .int .u64 (ce : Int), .int .u64 (at_ : Int), .int .u64 (le : Int)] 27 (0, 0)) := heap_alloc_new _ _
        have hu5 : Up w4 (w4.alloc (.cells #[.int .i64 lg, .slice R4 rn4 rn4, .int .u64 (f : Int), .int .u64 (ce : Int), .int .u64 (at_ : Int), .int .u64 (le : Int)] 27)) := (Up.refl w4).alloc _
        have hvb := hvb4.up hu5
        have hvw : VB lg l f ce at_ le w4.heap.size R4 rn4 (w4.alloc (.cells #[.int .i64 lg, .slice R4 rn4 rn4, .int .u64 (f : Int), .int .u64 (ce : Int), .int .u64 (at_ : Int), .int .u64 (le : Int)] 27)) := ⟨hgw, hrd4.up hu5⟩
        have hup5 := hup4.trans hu5
        have t0 := blk_cell hvb.blk 0
        have t1 := blk_cell hvb.blk 1
        have t2 := blk_cell hvb.blk 2
        have t3 := blk_cell hvb.blk 3
        have t4 := blk_cell hvb.blk 4
        have t5 := blk_cell hvb.blk 5
        have u0 := blk_cell hgw 0
        have u1 := blk_cell hgw 1
        have u2 := blk_cell hgw 2
        have u3 := blk_cell hgw 3
        have u4 := blk_cell hgw 4
        have u5 := blk_cell hgw 5
        go_wp2_with fail
        clear t0 t1 t2 t3 t4 t5 u0 u1 u2 u3 u4 u5 hgw hvb4 hup4 hrd4
        generalize w4.alloc (.cells #[.int .i64 lg, .slice R4 rn4 rn4, .int .u64 (f : Int), .int .u64 (ce : Int), .int .u64 (at_ : Int), .int .u64 (le : Int)] 27) = w5 at *
        clear hu5
        generalize w4.heap.size = gw at *
        have hsv : sameV lg l f ce at_ le lg l f ce at_ le = true := by unfold sameV; simp
        have HSV := Lib.hid hsv
        clear hsv
        refine (sameView_any lg V rn4 rn4 l f ce at_ le lg R4 rn4 rn4 l f ce at_ le w5 hvb.rd hvw.rd (by omega) (by omega)).mono ?_
        rintro e w6 ⟨rfl, hu6⟩
        rw [HSV.out]
        have hvb6 := hvb.up hu6
        have hvw6 := hvw.up hu6
        have hup6 := hup5.trans hu6
        clear hvb hvw hup5 hu6
        have t0 := blk_cell hvb6.blk 0
        have t1 := blk_cell hvb6.blk 1
        have t2 := blk_cell hvb6.blk 2
        have t3 := blk_cell hvb6.blk 3
        have t4 := blk_cell hvb6.blk 4
        have t5 := blk_cell hvb6.blk 5
        have u0 := blk_cell hvw6.blk 0
        have u1 := blk_cell hvw6.blk 1
        have u2 := blk_cell hvw6.blk 2
        have u3 := blk_cell hvw6.blk 3
        have u4 := blk_cell hvw6.blk 4
        have u5 := blk_cell hvw6.blk 5
        go_wp2_with fail
        clear t0 t1 t2 t3 t4 t5 u0 u1 u2 u3 u4 u5
        refine (same_any lg V rn4 rn4 l f ce at_ le lg R4 rn4 rn4 l f ce at_ le w6 hvb6.rd hvw6.rd (by omega) (by omega)).mono ?_
        rintro e w7 ⟨rfl, hu7⟩
        rw [HSV.out]
        have hvb7 := hvb6.up hu7
        have hup7 := hup6.trans hu7
        clear hvb6 hvw6 hup6 hu7
        have t1 := blk_cell hvb7.blk 1
        by_cases hz : rn4 = 0
        · subst hz
          go_wp2_with (go_at_call 11; with_reducible refine (awake15_any _).mono ?_; rintro e w8 ⟨rfl, hu8⟩)
          go_ret
          exact ⟨rfl, hup7.trans hu8⟩
        · obtain ⟨C, hC, _⟩ := i64_and_le which 255 (by omega)
          replace hC : bits .and .i64 which 255 = (C : Int) := hC
          obtain ⟨K, hK, hKn⟩ : ∃ K : Nat, (C : Int) % (rn4 : Int) = (K : Int) ∧ K < rn4 := ⟨C % rn4, by rw [Int.natCast_emod], Nat.mod_lt C (by omega)⟩
          have hz1 : ¬ ((rn4 : Int) = 0) := by omega
          have hKi : (K : Int) < (rn4 : Int) := by omega
          have hzb : ((rn4 : Int) == 0) = false := by simp; omega
          obtain ⟨bV, oV, fx, rfl, hbV, hfx, d0, d1⟩ := hvb7.rd.file_at hKn
          obtain ⟨x1, x2⟩ := fx
          (try dsimp only at d0 d1)
          have hKl : K < l.length := by have := HVN.out; omega
          rw [List.getElem?_eq_getElem hKl] at hfx
          injection hfx with hfx
          have HFX := Lib.hid hfx
          clear hfx
          have hfb : (w7.alloc (.cells #[.int .i64 x1, .int .i64 x2] 41)).heap[w7.heap.size]? = some (.cells #[.int .i64 x1, .int .i64 x2] 41 (0, 0)) := heap_alloc_new _ _
          have hu8 : Up w7 (w7.alloc (.cells #[.int .i64 x1, .int .i64 x2] 41)) := (Up.refl w7).alloc _
          have hvb8 := hvb7.up hu8
          have t0 := blk_cell hvb8.blk 0
          have t1 := blk_cell hvb8.blk 1
          have t2 := blk_cell hvb8.blk 2
          have t3 := blk_cell hvb8.blk 3
          have t4 := blk_cell hvb8.blk 4
          have t5 := blk_cell hvb8.blk 5
          have u0 := blk_cell hfb 0
          have u1 := blk_cell hfb 1
          have hi8 := Rd.made (sz := 1) (n := 1) (w7.alloc (.cells #[.int .i64 x1, .int .i64 x2] 41)) #[.int .i64 x2] 3 rfl
          have hf8 := Rd.made (sz := 2) (n := 1) ((w7.alloc (.cells #[.int .i64 x1, .int .i64 x2] 41)).alloc (.cells #[.int .i64 x2] 3)) #[.int .i64 x1, .int .i64 x2] 41 rfl
          have hu9 : Up (w7.alloc (.cells #[.int .i64 x1, .int .i64 x2] 41)) (((w7.alloc (.cells #[.int .i64 x1, .int .i64 x2] 41)).alloc (.cells #[.int .i64 x2] 3)).alloc (.cells #[.int .i64 x1, .int .i64 x2] 41)) := ((Up.refl _).alloc _).alloc _
          have hu9i : Up ((w7.alloc (.cells #[.int .i64 x1, .int .i64 x2] 41)).alloc (.cells #[.int .i64 x2] 3)) (((w7.alloc (.cells #[.int .i64 x1, .int .i64 x2] 41)).alloc (.cells #[.int .i64 x2] 3)).alloc (.cells #[.int .i64 x1, .int .i64 x2] 41)) := (Up.refl _).alloc _
          have hi9 := hi8.up hu9i
          rw [World.size_alloc w7] at hi9
          rw [show ((w7.alloc (.cells #[.int .i64 x1, .int .i64 x2] 41)).alloc (.cells #[.int .i64 x2] 3)).heap.size = w7.heap.size + 1 + 1 by simp] at hf8
          have hvb9 := hvb8.up hu9
          have hfb9 := (hu9.block _ (Array.getElem?_eq_some_iff.1 hfb).1).trans hfb
          have hup9 := (hup7.trans hu8).trans hu9
          go_wp2_with fail
          clear t0 t1 t2 t3 t4 t5 u0 u1 d0 d1 hbV hfb hvb8 hvb7 hup7 hi8 hu9i
          generalize ((w7.alloc (.cells #[.int .i64 x1, .int .i64 x2] 41)).alloc (.cells #[.int .i64 x2] 3)).alloc (.cells #[.int .i64 x1, .int .i64 x2] 41) = w8 at *
          clear hu8 hu9
          generalize w7.heap.size = gf at *
          have hback := apply_back HVO.out hKl
          rw [HFX.out] at hback
          have HBK := Lib.hid hback
          have htw := apply_twice HVO.out hKl
          rw [HFX.out] at htw
          have HTW := Lib.hid htw
          have hag := apply_again (lg := lg) (f := f) (ce := ce) (at_ := at_) (le := le) hKl
          rw [HFX.out] at hag
          have HAG := Lib.hid hag
          clear hback htw hag
          refine (apply_any lg (some ⟨bV, oV, none⟩) rn4 rn4 l f ce at_ le (some ⟨gf + 1, 0, none⟩) 1 1 [x2] (some ⟨gf + 1 + 1, 0, none⟩) 1 1 [(x1, x2)] 0 0 0 0 0 w8 hvb9.rd (by omega) hi9 (by omega) hf8 (by omega)).mono ?_
          intro e w9 hp
          rw [HBK.out] at hp
          obtain ⟨R9, rn9, rfl, hrd9, hu9, -⟩ := hp
          (try dsimp only at hrd9)
          have hrn9 : rn9 = rn4 := by
            have h1 := hrd9.flen
            rw [(erase_len l hKl)] at h1
            rw [h1, HVN.out]
          subst hrn9
          (try dsimp only)
          have hvb10 := hvb9.up hu9
          have hfb10 := (hu9.block _ (Array.getElem?_eq_some_iff.1 hfb9).1).trans hfb9
          have hup10 := hup9.trans hu9
          clear hvb9 hfb9 hup9 hu9 hi9 hf8
          have hgx : (w9.alloc (.cells #[.int .i64 lg, .slice R9 rn9 rn9, .int .u64 (f : Int), .int .u64 (ce : Int), .int .u64 (at_ : Int), .int .u64 (le : Int)] 27)).heap[w9.heap.size]? = some (.cells #[.int .i64 lg, .slice R9 rn9 rn9, .int .u64 (f : Int), .int .u64 (ce : Int), .int .u64 (at_ : Int), .int .u64 (le : Int)] 27 (0, 0)) := heap_alloc_new _ _
          have hu11 : Up w9 (w9.alloc (.cells #[.int .i64 lg, .slice R9 rn9 rn9, .int .u64 (f : Int), .int .u64 (ce : Int), .int .u64 (at_ : Int), .int .u64 (le : Int)] 27)) := (Up.refl w9).alloc _
          have hvb11 := hvb10.up hu11
          have hfb11 := (hu11.block _ (Array.getElem?_eq_some_iff.1 hfb10).1).trans hfb10
          have hrd11 := hrd9.up hu11
          have t0 := blk_cell hvb11.blk 0
          have t1 := blk_cell hvb11.blk 1
          have t2 := blk_cell hvb11.blk 2
          have t3 := blk_cell hvb11.blk 3
          have t4 := blk_cell hvb11.blk 4
          have t5 := blk_cell hvb11.blk 5
          have u0 := blk_cell hfb11 0
          have u1 := blk_cell hfb11 1
          have hi11 := Rd.made (sz := 1) (n := 2) (w9.alloc (.cells #[.int .i64 lg, .slice R9 rn9 rn9, .int .u64 (f : Int), .int .u64 (ce : Int), .int .u64 (at_ : Int), .int .u64 (le : Int)] 27)) #[.int .i64 x2, .int .i64 x2] 3 rfl
          rw [World.size_alloc w9] at hi11
          have hu12 : Up (w9.alloc (.cells #[.int .i64 lg, .slice R9 rn9 rn9, .int .u64 (f : Int), .int .u64 (ce : Int), .int .u64 (at_ : Int), .int .u64 (le : Int)] 27)) ((w9.alloc (.cells #[.int .i64 lg, .slice R9 rn9 rn9, .int .u64 (f : Int), .int .u64 (ce : Int), .int .u64 (at_ : Int), .int .u64 (le : Int)] 27)).alloc (.cells #[.int .i64 x2, .int .i64 x2] 3)) := (Up.refl _).alloc _
          have hvb12 := hvb11.up hu12
          have hfb12 := (hu12.block _ (Array.getElem?_eq_some_iff.1 hfb11).1).trans hfb11
          have hgx12 := (hu12.block _ (Array.getElem?_eq_some_iff.1 hgx).1).trans hgx
          have hrd12 := hrd11.up hu12
          have hup12 := (hup10.trans hu11).trans hu12
          go_wp2_with fail
          clear t0 t1 t2 t3 t4 t5 u0 u1 hvb11 hfb11 hgx hrd11 hvb10 hfb10 hrd9 hup10
          generalize (w9.alloc (.cells #[.int .i64 lg, .slice R9 rn9 rn9, .int .u64 (f : Int), .int .u64 (ce : Int), .int .u64 (at_ : Int), .int .u64 (le : Int)] 27)).alloc (.cells #[.int .i64 x2, .int .i64 x2] 3) = w10 at *
          clear hu11 hu12
          generalize w9.heap.size = gx at *
          refine (apply_any lg (some ⟨bV, oV, none⟩) rn9 rn9 l f ce at_ le (some ⟨gx + 1, 0, none⟩) 2 2 [x2, x2] none 0 0 [] 0 0 0 0 0 w10 hvb12.rd (by omega) hi11 (by omega) Rd.empty (by omega)).mono ?_
          intro e w11 hp
          rw [HTW.out] at hp
          obtain ⟨rfl, hu13⟩ := hp
          have hvb13 := hvb12.up hu13
          have hfb13 := (hu13.block _ (Array.getElem?_eq_some_iff.1 hfb12).1).trans hfb12
          have hgx13 := (hu13.block _ (Array.getElem?_eq_some_iff.1 hgx12).1).trans hgx12
          have hrd13 := hrd12.up hu13
          have hup13 := hup12.trans hu13
          clear hvb12 hfb12 hgx12 hrd12 hup12 hu13 hi11
          have hu14 : Up w11 ((w11.alloc (.cells #[.int .i64 0, .slice none 0 0, .int .u64 0, .int .u64 0, .int .u64 0, .int .u64 0] 27)).alloc (.cells #[.int .i64 x1, .int .i64 x2] 41)) := ((Up.refl w11).alloc _).alloc _
          have hu14a : Up w11 (w11.alloc (.cells #[.int .i64 0, .slice none 0 0, .int .u64 0, .int .u64 0, .int .u64 0, .int .u64 0] 27)) := (Up.refl w11).alloc _
          have hvb14a := hvb13.up hu14a
          have hfb14a := (hu14a.block _ (Array.getElem?_eq_some_iff.1 hfb13).1).trans hfb13
          have t0 := blk_cell hvb14a.blk 0
          have t1 := blk_cell hvb14a.blk 1
          have t2 := blk_cell hvb14a.blk 2
          have t3 := blk_cell hvb14a.blk 3
          have t4 := blk_cell hvb14a.blk 4
          have t5 := blk_cell hvb14a.blk 5
          have u0 := blk_cell hfb14a 0
          have u1 := blk_cell hfb14a 1
          have hf14 := Rd.made (sz := 2) (n := 1) (w11.alloc (.cells #[.int .i64 0, .slice none 0 0, .int .u64 0, .int .u64 0, .int .u64 0, .int .u64 0] 27)) #[.int .i64 x1, .int .i64 x2] 41 rfl
          rw [World.size_alloc w11] at hf14
          have hvb14 := hvb13.up hu14
          have hfb14 := (hu14.block _ (Array.getElem?_eq_some_iff.1 hfb13).1).trans hfb13
          have hgx14 := (hu14.block _ (Array.getElem?_eq_some_iff.1 hgx13).1).trans hgx13
          have hrd14 := hrd13.up hu14
          have hup14 := hup13.trans hu14
          go_wp2_with fail
          clear t0 t1 t2 t3 t4 t5 u0 u1 hvb13 hfb13 hgx13 hrd13 hup13 hvb14a hfb14a hu14a
          generalize (w11.alloc (.cells #[.int .i64 0, .slice none 0 0, .int .u64 0, .int .u64 0, .int .u64 0, .int .u64 0] 27)).alloc (.cells #[.int .i64 x1, .int .i64 x2] 41) = w12 at *
          clear hu14
          refine (apply_any lg (some ⟨bV, oV, none⟩) rn9 rn9 l f ce at_ le none 0 0 [] (some ⟨w11.heap.size + 1, 0, none⟩) 1 1 [(x1, x2)] 0 0 0 0 0 w12 hvb14.rd (by omega) Rd.empty (by omega) hf14 (by omega)).mono ?_
          intro e w13 hp
          rw [HAG.out] at hp
          obtain ⟨rfl, hu15⟩ := hp
          have hvb15 := hvb14.up hu15
          have hfb15 := (hu15.block _ (Array.getElem?_eq_some_iff.1 hfb14).1).trans hfb14
          have hgx15 := (hu15.block _ (Array.getElem?_eq_some_iff.1 hgx14).1).trans hgx14
          have hrd15 := hrd14.up hu15
          have hup15 := hup14.trans hu15
          clear hvb14 hfb14 hgx14 hrd14 hup14 hu15 hf14
          go_wp2_with fail
          have hu16a : Up w13 (w13.alloc (.cells #[.int .i64 0, .slice none 0 0, .int .u64 0, .int .u64 0, .int .u64 0, .int .u64 0] 27)) := (Up.refl w13).alloc _
          generalize w13.alloc (.cells #[.int .i64 0, .slice none 0 0, .int .u64 0, .int .u64 0, .int .u64 0, .int .u64 0] 27) = w14 at *
          replace hvb15 := hvb15.up hu16a
          replace hfb15 := (hu16a.block _ (Array.getElem?_eq_some_iff.1 hfb15).1).trans hfb15
          replace hgx15 := (hu16a.block _ (Array.getElem?_eq_some_iff.1 hgx15).1).trans hgx15
          replace hrd15 := hrd15.up hu16a
          replace hup15 := hup15.trans hu16a
          clear hu16a
          obtain ⟨b9, o9, fl9, rfl, hb9, hfl9, e0, e1⟩ := hrd15.file_at (show rn9 - 1 < rn9 by omega)
          have hll : (l.eraseIdx K).length = rn9 - 1 := by rw [List.length_eraseIdx, if_pos hKl]; have := HVN.out; omega
          rw [List.getElem?_append_right (by omega), hll, Nat.sub_self] at hfl9
          have hfl : fl9 = (x1, x2) := by simpa using hfl9.symm
          subst hfl
          (try dsimp only at e0 e1)
          clear hfl9 hll
          have hS : ∀ W, Up w14 W → Up w14 W ∧ W.cell? ⟨gx, 1, none⟩ = some (.slice (some ⟨b9, o9, none⟩) rn9 rn9) ∧ W.cell? ⟨gv, 1, none⟩ = some (.slice (some ⟨bV, oV, none⟩) rn9 rn9) ∧ W.cell? ⟨gf, 0, none⟩ = some (.int .i64 x1) ∧ W.cell? ⟨gf, 1, none⟩ = some (.int .i64 x2) ∧
              W.cell? ⟨b9, o9 + (rn9 - 1) * 2, none⟩ = some (.int .i64 x1) ∧ W.cell? ⟨b9, o9 + (rn9 - 1) * 2 + 1, none⟩ = some (.int .i64 x2) := fun W h => by
            have hv := (hvb15.up h).blk
            have hx := (h.block _ (Array.getElem?_eq_some_iff.1 hgx15).1).trans hgx15
            have hf := (h.block _ (Array.getElem?_eq_some_iff.1 hfb15).1).trans hfb15
            exact ⟨h, blk_cell hx 1, blk_cell hv 1, blk_cell hf 0, blk_cell hf 1, (h.cell (p := ⟨b9, o9 + (rn9 - 1) * 2, none⟩) hb9).trans e0, (h.cell (p := ⟨b9, o9 + (rn9 - 1) * 2 + 1, none⟩) hb9).trans e1⟩
          have v1 : IntKind.i64.wrap ((rn9 : Int) - 1) = (rn9 : Int) - 1 := IntWalk.i64_in _ (by omega)
          have v2 : ((rn9 : Int) - 1).toNat = rn9 - 1 := by omega
          have v3 : (0 : Int) ≤ (rn9 : Int) - 1 := by omega
          have v4 : (rn9 : Int) - 1 < (rn9 : Int) := by omega
          have v5 : (1 : Int) ≤ (rn9 : Int) := by omega
          clear hvb15 hgx15 hfb15 hrd15 e0 e1
          apply Rg.region_up _ (by kernel_rfl) (by kernel_rfl) hS
          · intro QN hQN
            iterate 2 (apply Rg.RK.ok; (· intro vs w1 hS; go_simp; with_reducible rfl); (· rfl); simp only [Act.put, List.setIfInBounds_toArray, List.set_cons_zero, List.set_cons_succ, Nat.reduceAdd])
            iterate 7 (apply Rg.RK.gok (t := 126); (· intro vs w1 hS; go_simp; with_reducible rfl); (· rfl); (· intro vs; rfl); simp only [Act.put, List.setIfInBounds_toArray, List.set_cons_zero, List.set_cons_succ, Nat.reduceAdd])
            iterate 2 (apply Rg.RK.ok; (· intro vs w1 hS; go_simp; with_reducible rfl); (· rfl); simp only [Act.put, List.setIfInBounds_toArray, List.set_cons_zero, List.set_cons_succ, Nat.reduceAdd])
            iterate 10 (apply Rg.RK.gok (t := 135); (· intro vs w1 hS; go_simp; with_reducible rfl); (· rfl); (· intro vs; rfl); simp only [Act.put, List.setIfInBounds_toArray, List.set_cons_zero, List.set_cons_succ, Nat.reduceAdd])
            iterate 2 (apply Rg.RK.ok; (· intro vs w1 hS; go_simp; with_reducible rfl); (· rfl); simp only [Act.put, List.setIfInBounds_toArray, List.set_cons_zero, List.set_cons_succ, Nat.reduceAdd])
            iterate 2 (apply Rg.RK.gok (t := 147); (· intro vs w1 hS; go_simp; with_reducible rfl); (· rfl); (· intro vs; rfl); simp only [Act.put, List.setIfInBounds_toArray, List.set_cons_zero, List.set_cons_succ, Nat.reduceAdd])
            iterate 2 (apply Rg.RK.ok; (· intro vs w1 hS; go_simp; with_reducible rfl); (· rfl); simp only [Act.put, List.setIfInBounds_toArray, List.set_cons_zero, List.set_cons_succ, Nat.reduceAdd])
            iterate 2 (apply Rg.RK.gok (t := 151); (· intro vs w1 hS; go_simp; with_reducible rfl); (· rfl); (· intro vs; rfl); simp only [Act.put, List.setIfInBounds_toArray, List.set_cons_zero, List.set_cons_succ, Nat.reduceAdd])
            iterate 2 (apply Rg.RK.ok; (· intro vs w1 hS; go_simp; with_reducible rfl); (· rfl); simp only [Act.put, List.setIfInBounds_toArray, List.set_cons_zero, List.set_cons_succ, Nat.reduceAdd])
            apply Rg.RK.gcall (t := 155) (.bool true) []
            · rfl
            · intro vs; rfl
            · intro vs w1 hK hS _ K hKK
              go_simp
              refine (awake15_any _).mono ?_
              rintro e w2 ⟨rfl, hu2⟩
              exact hKK.out _ hu2
            simp only [Act.put, List.setIfInBounds_toArray, List.set_cons_zero, List.set_cons_succ, Nat.reduceAdd]
            iterate 2 (apply Rg.RK.ok; (· intro vs w1 hS; go_simp; with_reducible rfl); (· rfl); simp only [Act.put, List.setIfInBounds_toArray, List.set_cons_zero, List.set_cons_succ, Nat.reduceAdd])
            apply Rg.RK.fin []
            intro vs w1 hK hS _
            refine hQN.out _ _ ?_
            clear hQN
            have hu16 := keeps_up hK
            go_wp2_with fail
            go_ret
            exact ⟨rfl, hup15.trans hu16⟩
          · kernel_rfl
end Go.Proofs.Ytokcaoaclheiiaa.editWhole
