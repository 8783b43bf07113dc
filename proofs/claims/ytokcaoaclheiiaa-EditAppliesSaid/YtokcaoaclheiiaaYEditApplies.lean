/-
  'clepsydra/clepsydralaw15.EditApplies': for every input the law returns true; each argument reads behind the call as it read before. No condition.
-/
import Derived.IntWalk
import Derived.Test.YtokcaoaclheiiaaZ5
/-
  The law EditApplies: the walk.
-/
namespace Go.Proofs.Ytokcaoaclheiiaa.editApplies
open Go.RowKit
set_option linter.unusedVariables false
set_option linter.unusedSimpArgs false

theorem xor_byte (x y : Int) : ∃ z : UInt8, bits .xor .u8 x y = (z.toNat : Int) := by
  have h : ∃ q : Int, bits .xor .u8 x y = IntKind.u8.wrap q := ⟨_, rfl⟩
  obtain ⟨q, hq⟩ := h
  refine ⟨UInt8.ofNat (q % 256).toNat, ?_⟩
  rw [hq, IntKind.wrap_u8]
  have h0 : 0 ≤ q % 256 := by omega
  have h1 : q % 256 < 256 := by omega
  simp
  omega
theorem sameV_self (v : VT) : sameV v.1 v.2.1 v.2.2.1 v.2.2.2.1 v.2.2.2.2.1 v.2.2.2.2.2 v.1 v.2.1 v.2.2.1 v.2.2.2.1 v.2.2.2.2.1 v.2.2.2.2.2 = true := by unfold sameV; simp
def C6 (W : World) (g : Nat) (v : VT) (A : Option Addr) (n c : Nat) : Prop := W.cell? ⟨g, 0, none⟩ = some (.int .i64 v.1) ∧ W.cell? ⟨g, 1, none⟩ = some (.slice A n c) ∧ W.cell? ⟨g, 2, none⟩ = some (.int .u64 (v.2.2.1 : Int)) ∧ W.cell? ⟨g, 3, none⟩ = some (.int .u64 (v.2.2.2.1 : Int)) ∧ W.cell? ⟨g, 4, none⟩ = some (.int .u64 (v.2.2.2.2.1 : Int)) ∧ W.cell? ⟨g, 5, none⟩ = some (.int .u64 (v.2.2.2.2.2 : Int))
theorem vw_c6 {W : World} {g : Nat} {v : VT} {A : Option Addr} {n c : Nat} (h : W.heap[g]? = some (.cells (vcs v A n c) 27 (0, 0))) : C6 W g v A n c := ⟨blk_cell h 0, blk_cell h 1, blk_cell h 2, blk_cell h 3, blk_cell h 4, blk_cell h 5⟩
theorem Beg.take {g : Nat} {l : List UInt8} {w : World} (h : Beg g l w) (q : Nat) : Beg g (l.take q) w := by
  obtain ⟨cs, t, fz, h1, h2, h3, h4⟩ := h
  have hl : (l.take q).length ≤ l.length := by rw [List.length_take]; omega
  refine ⟨cs, t, fz, h1, by omega, by omega, fun j hj => ?_⟩
  have hj2 : j < q := by rw [List.length_take] at hj; omega
  rw [h4 j (by omega), List.getD_eq_getElem?_getD, List.getD_eq_getElem?_getD, List.getElem?_take_of_lt hj2]
structure VX (g : Nat) (v : VT) (A : Option Addr) (n c : Nat) (W : World) : Prop where
  blk : W.heap[g]? = some (.cells (vcs v A n c) 27 (0, 0))
  rd : Rd W W.heap.size 2 A n (fvs v.2.1)
  nc : n ≤ c
  le : n ≤ 40
theorem VX.up {g : Nat} {v : VT} {A : Option Addr} {n c : Nat} {W W' : World} (h : VX g v A n c W) (hu : Up W W') : VX g v A n c W' := ⟨blk_upE hu h.blk, h.rd.up hu, h.nc, h.le⟩
set_option maxRecDepth 100000 in
set_option maxHeartbeats 16000000 in
theorem law_any (A : Option Addr) (n c : Nat) (es : List EdV) (at0 by0 cut : Int) (w : World) (hr : IsEs w A n c es) (b1 : -9223372036854775808 ≤ at0 ∧ at0 ≤ 9223372036854775807) (b2 : 0 ≤ by0 ∧ by0 ≤ 255) (b3 : -9223372036854775808 ≤ cut ∧ cut ≤ 9223372036854775807) :
    Calls Try.prog 7 #[.slice A n c, .int .i64 at0, .int .u8 by0, .int .i64 cut] w fun e w' => e = .returned (.bool true) ∧ Up w w' := by
  have hn : n ≤ 9223372036854775807 := by have := hr.2.2; omega
  obtain ⟨w1, hw1⟩ : ∃ w1, w1 = (w.alloc (.cells #[.int .i64 0, .slice none 0 0, .int .u64 0, .int .u64 0, .int .u64 0, .int .u64 0] 27)).alloc (.cells #[.int .i64 0, .slice none 0 0, .int .u64 0, .int .u64 0, .int .u64 0, .int .u64 0] 27) := ⟨_, rfl⟩
  have hup1 : Up w w1 := by rw [hw1]; exact ((Up.refl w).alloc _).alloc _
  have hg1 : w1.heap[w.heap.size]? = some (.cells #[.int .i64 0, .slice none 0 0, .int .u64 0, .int .u64 0, .int .u64 0, .int .u64 0] 27 (0, 0)) := by rw [hw1, Below.heap_alloc _ _ _ (by simp)]; exact heap_alloc_new w _
  have hg1b : w1.heap[w.heap.size + 1]? = some (.cells #[.int .i64 0, .slice none 0 0, .int .u64 0, .int .u64 0, .int .u64 0, .int .u64 0] 27 (0, 0)) := by
    rw [hw1]
    have h := heap_alloc_new (w.alloc (.cells #[.int .i64 0, .slice none 0 0, .int .u64 0, .int .u64 0, .int .u64 0, .int .u64 0] 27)) (.cells #[.int .i64 0, .slice none 0 0, .int .u64 0, .int .u64 0, .int .u64 0, .int .u64 0] 27)
    rwa [World.size_alloc] at h
  have HW := Lib.hid hw1
  clear hw1
  go_enter Try.func7, Try.ntmps7
  go_wp2_with fail
  rw [← HW.out]
  clear HW
  have hg3E : w.heap.size < w.heap.size + 1 := by omega
  generalize hg3 : w.heap.size + 1 = gw at *
  generalize hg2 : w.heap.size = gv at hg1 hg3E ⊢
  have hgw : w.heap.size ≤ gv := Nat.le_of_eq hg2
  have hgw3 : w.heap.size ≤ gw := by omega
  clear hg2 hg3
  go_loopw [11, 12] (fun sv i wr => ∃ (k m : Nat) (S : List UInt8) (v : VT) (A6 : Option Addr) (n6 c6 : Nat) (A7 : Option Addr) (n7 c7 : Nat), i = .int .i64 (k : Int) ∧ sv = .string (tx S) ∧ k ≤ 20 ∧ k ≤ n ∧ Up w wr ∧ VW gv v A6 n6 c6 wr ∧ VW gw v A7 n7 c7 wr ∧ Hid (LogI S v m) ∧ S.length ≤ 1800 * k) (fun _ i _ => 20 - (intOf i).toNat)
  case atStart => exact ⟨0, 0, [], v0, none, 0, 0, none, 0, 0, rfl, rfl, by omega, by omega, hup1, ⟨hg1, Rd.empty, by omega, by omega, fun a ha => by cases ha⟩, ⟨hg1b, Rd.empty, by omega, by omega, fun a ha => by cases ha⟩, LogI.nil, by simp⟩
  case round =>
    obtain ⟨k, m, S, v, A6, n6, c6, A7, n7, c7, rfl, rfl, hk20, hkn, hup, hv, hw, hlog, hsl⟩ := hrel
    clear hg1 hg1b hup1
    by_cases hlt : k < n
    · by_cases h20 : k < 20
      · obtain ⟨b, o, e, rfl, hek, hed, hcell⟩ := hr.at_ hlt
        have i1 : (k : Int) < (n : Int) := by omega
        have i2 : (k : Int) < 20 := by omega
        obtain ⟨c0, c1, c2, c3, c4, c5, c6'⟩ := hcell wr hup
        go_wp2_with fail
        clear c0 c1 c2 c3 c4 c5 c6'
        refine (few_any e.D e.dn e.dc e.A e.an e.ac e.lg e.f e.ce e.at_ e.le wr).mono ?_
        rintro e2 w2 ⟨rfl, hu2⟩
        by_cases hfew : e.dn ≤ 60 ∧ e.an ≤ 60
        · have hfb : decide (e.dn ≤ 60 ∧ e.an ≤ 60) = true := by simp; omega
          rw [hfb]
          clear hfb
          have hv2 := hv.up hu2
          have hw2 := hw.up hu2
          have hup2 := hup.trans hu2
          have hn6 := hv2.le
          have hn7 := hw2.le
          have hC := fun W (h : Up w2 W) => hcell W (hup2.trans h)
          have hap := fun W (h : Up w2 W) => (apply_any v.1 A6 n6 c6 v.2.1 v.2.2.1 v.2.2.2.1 v.2.2.2.2.1 v.2.2.2.2.2 e.D e.dn e.dc e.ds e.A e.an e.ac e.add e.lg e.f e.ce e.at_ e.le W (hv2.rd.up h) (by omega) (hed.rd.up (hup2.trans h)) (by omega) (hed.ra.up (hup2.trans h)) (by omega)).mono (fun e w' h => ap_rap h)
          have hrp := fun W (h : Up w2 W) => rapply_any v.1 A7 n7 c7 v.2.1 v.2.2.1 v.2.2.2.1 v.2.2.2.2.1 v.2.2.2.2.2 e.D e.dn e.dc e.ds e.A e.an e.ac e.add e.lg e.f e.ce e.at_ e.le W (hw2.rd.up h) (by omega) (hed.rd.up (hup2.trans h)) (by omega) (hed.ra.up (hup2.trans h)) (by omega)
          have hS : ∀ W, Up w2 W → Up w2 W ∧ C6 W gv v A6 n6 c6 ∧ (W.cell? ⟨b, o + k * 7, none⟩ = some (.slice e.D e.dn e.dc) ∧ W.cell? ⟨b, o + k * 7 + 1, none⟩ = some (.slice e.A e.an e.ac) ∧ W.cell? ⟨b, o + k * 7 + 2, none⟩ = some (.int .i64 e.lg) ∧ W.cell? ⟨b, o + k * 7 + 3, none⟩ = some (.int .u64 (e.f : Int)) ∧ W.cell? ⟨b, o + k * 7 + 4, none⟩ = some (.int .u64 (e.ce : Int)) ∧ W.cell? ⟨b, o + k * 7 + 5, none⟩ = some (.int .u64 (e.at_ : Int)) ∧ W.cell? ⟨b, o + k * 7 + 6, none⟩ = some (.int .u64 (e.le : Int))) := fun W h => ⟨h, vw_c6 (hv2.up h).blk, hC W h⟩
          obtain ⟨r, hr0⟩ : ∃ r : Option VT, r = applyR v.1 v.2.1 v.2.2.1 v.2.2.2.1 v.2.2.2.2.1 v.2.2.2.2.2 e.ds e.add e.lg e.f e.ce e.at_ e.le := ⟨_, rfl⟩
          rw [← hr0] at hap hrp
          have HR0 := Lib.hid hr0
          have HRP := Lib.hid hrp
          have HC := Lib.hid hC
          clear hr0 hv hw hup hu2 hrp hC
          cases r with
          | none =>
            unfold C6 at hS
            go_wp2_with fail
            apply Rg.region_up _ (by kernel_rfl) (by kernel_rfl) hS
            · intro QN hQN
              iterate 5 (apply Rg.RK.ok; (· intro vs w1 hS; go_simp; with_reducible rfl); (· rfl); simp only [Act.put, List.setIfInBounds_toArray, List.set_cons_zero, List.set_cons_succ, Nat.reduceAdd])
              apply Rg.RK.call (.tuple #[.agg #[.int .i64 0, .slice none 0 0, .int .u64 0, .int .u64 0, .int .u64 0, .int .u64 0], .bool false]) []
              · rfl
              · intro vs w1 hK hS _ K hKK
                go_simp
                refine (hap _ hS.1).mono ?_
                rintro e w2 ⟨rfl, hu2⟩
                exact hKK.out _ hu2
              simp only [Act.put, List.setIfInBounds_toArray, List.set_cons_zero, List.set_cons_succ, Nat.reduceAdd]
              iterate 3 (apply Rg.RK.ok; (· intro vs w1 hS; go_simp; with_reducible rfl); (· rfl); simp only [Act.put, List.setIfInBounds_toArray, List.set_cons_zero, List.set_cons_succ, Nat.reduceAdd])
              apply Rg.RK.opn (fun v W => ∃ g, v = .pointer (some ⟨g, 0, none⟩) ∧ W.heap[g]? = some (.cells #[.int .i64 0, .slice none 0 0, .int .u64 0, .int .u64 0, .int .u64 0, .int .u64 0] 27 (0, 0))) Rg.ob [] []
              · rintro v W1 W2 ⟨g, rfl, hh⟩ hs
                exact ⟨g, rfl, (hs.block g (Array.getElem?_eq_some_iff.1 hh).1 (.inr rfl)).trans hh⟩
              · rfl
              · intro vs w1 hK hS _ K hKK
                go_simp
                exact hKK.out _ _ ⟨w1.heap.size, rfl, heap_alloc_new w1 _⟩ (Rg.Keeps.of_up ((Up.refl _).alloc _)) (by rintro g rfl; exact ⟨by simp, .inl (Nat.le_refl _)⟩)
              simp only [Act.put, List.setIfInBounds_toArray, List.set_cons_zero, List.set_cons_succ, Nat.reduceAdd]
              apply Rg.RK.opD (fun vs W => ∃ g, vs 9 = .pointer (some ⟨g, 0, none⟩) ∧ W.heap[g]? = some (.cells #[.int .i64 0, .slice none 0 0, .int .u64 0, .int .u64 0, .int .u64 0, .int .u64 0] 27 (0, 0))) (fun vs => Rg.ob (vs 9)) [9] [9] [9] (fun vs vs' h => by rw [h 9 (by simp)]; exact ⟨rfl, rfl⟩)
              · rintro vs W1 W2 ⟨g, h2, hh⟩ hs
                exact ⟨g, h2, (hs.block g (Array.getElem?_eq_some_iff.1 hh).1 (.inr (by rw [h2]; rfl))).trans hh⟩
              · rfl
              · intro vs w1 hK hS hf K hKK
                obtain ⟨h9, -⟩ := hf
                obtain ⟨g, hv9, hh⟩ := h9
                (try dsimp only at hKK ⊢)
                rw [hv9] at hKK ⊢
                have HV9 := Lib.hid hv9
                clear hv9
                have t0 := blk_cell hh 0
                have s0 := blk_free hh 0
                have t1 := blk_cell hh 1
                have s1 := blk_free hh 1
                have t2 := blk_cell hh 2
                have s2 := blk_free hh 2
                have t3 := blk_cell hh 3
                have s3 := blk_free hh 3
                have t4 := blk_cell hh 4
                have s4 := blk_free hh 4
                have t5 := blk_cell hh 5
                have s5 := blk_free hh 5
                have h6 := set6 w1 g _ _ _ _ _ _ (.int .i64 0) (.slice none 0 0) (.int .u64 0) (.int .u64 0) (.int .u64 0) (.int .u64 0) _ hh
                go_simp
                refine hKK.out undef _ ⟨g, by rw [Rg.upd_ne _ _ (by decide)]; exact HV9.out, h6.1⟩ (Keeps.weak h6.2 fun y hy => ⟨9, List.mem_singleton.2 rfl, ?_⟩) (fun y hy => ⟨?_, .inr ⟨9, List.mem_singleton.2 rfl, ?_⟩⟩)
                · show Rg.ob (vs 9) y
                  rw [HV9.out]; exact hy.symm
                · have hy' : Rg.ob (vs 9) y := by simpa only [Rg.upd_ne _ _ (show 9 ≠ 10 by decide)] using hy
                  rw [HV9.out] at hy'
                  have hgy : g = y := hy'
                  rw [← hgy]; exact (Array.getElem?_eq_some_iff.1 h6.1).1
                · have hy' : Rg.ob (vs 9) y := by simpa only [Rg.upd_ne _ _ (show 9 ≠ 10 by decide)] using hy
                  exact hy'
              simp only [Act.put, List.setIfInBounds_toArray, List.set_cons_zero, List.set_cons_succ, Nat.reduceAdd]
              (apply Rg.RK.ok; (· intro vs w1 hS; go_simp; with_reducible rfl); (· rfl); simp only [Act.put, List.setIfInBounds_toArray, List.set_cons_zero, List.set_cons_succ, Nat.reduceAdd])
              apply Rg.RK.fin [10]
              intro vs w8 hK hS hf
              obtain ⟨h10, -⟩ := hf
              obtain ⟨gx, hv9, hh8⟩ := h10
              refine hQN.out _ _ ?_
              clear hQN
              rw [hv9]
              have hu8 := keeps_up hK
              have hw8 := hw2.up hu8
              clear hS hK hv9 hap
              have hS2 : ∀ W, Up w8 W → Up w8 W ∧ C6 W gw v A7 n7 c7 ∧ (W.cell? ⟨b, o + k * 7, none⟩ = some (.slice e.D e.dn e.dc) ∧ W.cell? ⟨b, o + k * 7 + 1, none⟩ = some (.slice e.A e.an e.ac) ∧ W.cell? ⟨b, o + k * 7 + 2, none⟩ = some (.int .i64 e.lg) ∧ W.cell? ⟨b, o + k * 7 + 3, none⟩ = some (.int .u64 (e.f : Int)) ∧ W.cell? ⟨b, o + k * 7 + 4, none⟩ = some (.int .u64 (e.ce : Int)) ∧ W.cell? ⟨b, o + k * 7 + 5, none⟩ = some (.int .u64 (e.at_ : Int)) ∧ W.cell? ⟨b, o + k * 7 + 6, none⟩ = some (.int .u64 (e.le : Int))) := fun W h => ⟨h, vw_c6 (hw8.up h).blk, HC.out W (hu8.trans h)⟩
              unfold C6 at hS2
              have hrp := fun W (h : Up w8 W) => HRP.out W (hu8.trans h)
              go_wp2_with fail
              apply Rg.region_up _ (by kernel_rfl) (by kernel_rfl) hS2
              · intro QN hQN
                iterate 5 (apply Rg.RK.ok; (· intro vs w1 hS; go_simp; with_reducible rfl); (· rfl); simp only [Act.put, List.setIfInBounds_toArray, List.set_cons_zero, List.set_cons_succ, Nat.reduceAdd])
                apply Rg.RK.call (.tuple #[.agg #[.int .i64 0, .slice none 0 0, .int .u64 0, .int .u64 0, .int .u64 0, .int .u64 0], .bool false]) []
                · rfl
                · intro vs w1 hK hS _ K hKK
                  go_simp
                  refine (hrp _ hS.1).mono ?_
                  rintro e w2 ⟨rfl, hu2⟩
                  exact hKK.out _ hu2
                simp only [Act.put, List.setIfInBounds_toArray, List.set_cons_zero, List.set_cons_succ, Nat.reduceAdd]
                iterate 3 (apply Rg.RK.ok; (· intro vs w1 hS; go_simp; with_reducible rfl); (· rfl); simp only [Act.put, List.setIfInBounds_toArray, List.set_cons_zero, List.set_cons_succ, Nat.reduceAdd])
                apply Rg.RK.opn (fun v W => ∃ g, v = .pointer (some ⟨g, 0, none⟩) ∧ W.heap[g]? = some (.cells #[.int .i64 0, .slice none 0 0, .int .u64 0, .int .u64 0, .int .u64 0, .int .u64 0] 27 (0, 0))) Rg.ob [] []
                · rintro v W1 W2 ⟨g, rfl, hh⟩ hs
                  exact ⟨g, rfl, (hs.block g (Array.getElem?_eq_some_iff.1 hh).1 (.inr rfl)).trans hh⟩
                · rfl
                · intro vs w1 hK hS _ K hKK
                  go_simp
                  exact hKK.out _ _ ⟨w1.heap.size, rfl, heap_alloc_new w1 _⟩ (Rg.Keeps.of_up ((Up.refl _).alloc _)) (by rintro g rfl; exact ⟨by simp, .inl (Nat.le_refl _)⟩)
                simp only [Act.put, List.setIfInBounds_toArray, List.set_cons_zero, List.set_cons_succ, Nat.reduceAdd]
                apply Rg.RK.opD (fun vs W => ∃ g, vs 9 = .pointer (some ⟨g, 0, none⟩) ∧ W.heap[g]? = some (.cells #[.int .i64 0, .slice none 0 0, .int .u64 0, .int .u64 0, .int .u64 0, .int .u64 0] 27 (0, 0))) (fun vs => Rg.ob (vs 9)) [9] [9] [9] (fun vs vs' h => by rw [h 9 (by simp)]; exact ⟨rfl, rfl⟩)
                · rintro vs W1 W2 ⟨g, h2, hh⟩ hs
                  exact ⟨g, h2, (hs.block g (Array.getElem?_eq_some_iff.1 hh).1 (.inr (by rw [h2]; rfl))).trans hh⟩
                · rfl
                · intro vs w1 hK hS hf K hKK
                  obtain ⟨h9, -⟩ := hf
                  obtain ⟨g, hv9, hh⟩ := h9
                  (try dsimp only at hKK ⊢)
                  rw [hv9] at hKK ⊢
                  have HV9 := Lib.hid hv9
                  clear hv9
                  have t0 := blk_cell hh 0
                  have s0 := blk_free hh 0
                  have t1 := blk_cell hh 1
                  have s1 := blk_free hh 1
                  have t2 := blk_cell hh 2
                  have s2 := blk_free hh 2
                  have t3 := blk_cell hh 3
                  have s3 := blk_free hh 3
                  have t4 := blk_cell hh 4
                  have s4 := blk_free hh 4
                  have t5 := blk_cell hh 5
                  have s5 := blk_free hh 5
                  have h6 := set6 w1 g _ _ _ _ _ _ (.int .i64 0) (.slice none 0 0) (.int .u64 0) (.int .u64 0) (.int .u64 0) (.int .u64 0) _ hh
                  go_simp
                  refine hKK.out undef _ ⟨g, by rw [Rg.upd_ne _ _ (by decide)]; exact HV9.out, h6.1⟩ (Keeps.weak h6.2 fun y hy => ⟨9, List.mem_singleton.2 rfl, ?_⟩) (fun y hy => ⟨?_, .inr ⟨9, List.mem_singleton.2 rfl, ?_⟩⟩)
                  · show Rg.ob (vs 9) y
                    rw [HV9.out]; exact hy.symm
                  · have hy' : Rg.ob (vs 9) y := by simpa only [Rg.upd_ne _ _ (show 9 ≠ 10 by decide)] using hy
                    rw [HV9.out] at hy'
                    have hgy : g = y := hy'
                    rw [← hgy]; exact (Array.getElem?_eq_some_iff.1 h6.1).1
                  · have hy' : Rg.ob (vs 9) y := by simpa only [Rg.upd_ne _ _ (show 9 ≠ 10 by decide)] using hy
                    exact hy'
                simp only [Act.put, List.setIfInBounds_toArray, List.set_cons_zero, List.set_cons_succ, Nat.reduceAdd]
                (apply Rg.RK.ok; (· intro vs w1 hS; go_simp; with_reducible rfl); (· rfl); simp only [Act.put, List.setIfInBounds_toArray, List.set_cons_zero, List.set_cons_succ, Nat.reduceAdd])
                apply Rg.RK.fin [10]
                intro vs w9 hK hS hf
                obtain ⟨h10, -⟩ := hf
                obtain ⟨gy, hv9, hh9⟩ := h10
                refine hQN.out _ _ ?_
                clear hQN
                rw [hv9]
                have hu9 := keeps_up hK
                have hx9 := blk_upE hu9 hh8
                have hv9' := hv2.up (hu8.trans hu9)
                have hw9 := hw8.up hu9
                have hup9 := hup2.trans (hu8.trans hu9)
                clear hS hK hv9 hrp hh8 hu8 hu9 hS2 hv2 hw2 hup2 hw8
                have hvx : VW gx v0 none 0 0 w9 := ⟨hx9, Rd.empty, by omega, by omega, fun a ha => by cases ha⟩
                have hvy : VW gy v0 none 0 0 w9 := ⟨hh9, Rd.empty, by omega, by omega, fun a ha => by cases ha⟩
                clear hx9 hh9
                have HSV := Lib.hid (sameV_self (v0))
                obtain ⟨q0, q1, q2, q3, q4, q5⟩ := vw_c6 (hvx).blk
                obtain ⟨r0, r1, r2, r3, r4, r5⟩ := vw_c6 (hvy).blk
                go_wp2_with fail
                clear q0 q1 q2 q3 q4 q5 r0 r1 r2 r3 r4 r5
                refine (vsame_any (v0).1 (none) (0) (0) (v0).2.1 (v0).2.2.1 (v0).2.2.2.1 (v0).2.2.2.2.1 (v0).2.2.2.2.2 (v0).1 (none) (0) (0) (v0).2.1 (v0).2.2.1 (v0).2.2.2.1 (v0).2.2.2.2.1 (v0).2.2.2.2.2 w9 hvx.rd hvy.rd (by have := hvx.le; omega) (by have := hvy.le; omega)).mono ?_
                rintro e3 w10 ⟨rfl, hu10⟩
                rw [HSV.out]
                have hvx10 := hvx.up hu10
                have hvy10 := hvy.up hu10
                have hv10 := hv9'.up hu10
                have hw10 := hw9.up hu10
                have hup10 := hup9.trans hu10
                clear hvx hvy hv9' hw9 hup9
                obtain ⟨q0, q1, q2, q3, q4, q5⟩ := vw_c6 (hvx10).blk
                obtain ⟨r0, r1, r2, r3, r4, r5⟩ := vw_c6 (hvy10).blk
                go_wp2_with fail
                clear q0 q1 q2 q3 q4 q5 r0 r1 r2 r3 r4 r5
                refine (sameView_any (v0).1 (none) (0) (0) (v0).2.1 (v0).2.2.1 (v0).2.2.2.1 (v0).2.2.2.2.1 (v0).2.2.2.2.2 (v0).1 (none) (0) (0) (v0).2.1 (v0).2.2.1 (v0).2.2.2.1 (v0).2.2.2.2.1 (v0).2.2.2.2.2 w10 hvx10.rd hvy10.rd (by have := hvx10.le; omega) (by have := hvy10.le; omega)).mono ?_
                rintro e4 w11 ⟨rfl, hu11⟩
                rw [HSV.out]
                have hvx11 := hvx10.up hu11
                have hvy11 := hvy10.up hu11
                have hv11 := hv10.up hu11
                have hw11 := hw10.up hu11
                have hup11 := hup10.trans hu11
                clear hvx10 hvy10 hv10 hw10 hup10 HSV
                obtain ⟨vb, hvb⟩ : ∃ vb, vb = viewOk (v0).1 (v0).2.1 (v0).2.2.1 (v0).2.2.2.1 (v0).2.2.2.2.1 (v0).2.2.2.2.2 := ⟨_, rfl⟩
                have hk1 := fun W (h : Up w11 W) => vok_any (v0).1 (none) (0) (0) (v0).2.1 (v0).2.2.1 (v0).2.2.2.1 (v0).2.2.2.2.1 (v0).2.2.2.2.2 W ((hvx11).rd.up h) (hvx11).nc (by have := (hvx11).le; omega)
                have hk2 := fun W (h : Up w11 W) => rvok_any (v0).1 (none) (0) (0) (v0).2.1 (v0).2.2.1 (v0).2.2.2.1 (v0).2.2.2.2.1 (v0).2.2.2.2.2 W ((hvx11).rd.up h) (by have := (hvx11).le; omega)
                rw [← hvb] at hk1 hk2
                clear hvb
                have hSk : ∀ W, Up w11 W → Up w11 W ∧ C6 W gx (v0) (none) (0) (0) := fun W h => ⟨h, vw_c6 ((hvx11).up h).blk⟩
                unfold C6 at hSk
                cases vb with
                | true =>
                  go_wp2_with fail
                  apply Rg.region_up _ (by kernel_rfl) (by kernel_rfl) hSk
                  · intro QN hQN
                    (apply Rg.RK.ok; (· intro vs w1 hS; go_simp; with_reducible rfl); (· rfl); simp only [Act.put, List.setIfInBounds_toArray, List.set_cons_zero, List.set_cons_succ, Nat.reduceAdd])
                    apply Rg.RK.call (.bool true) []
                    · rfl
                    · intro vs w1 hK hS _ K hKK
                      go_simp
                      refine (hk1 _ hS.1).mono ?_
                      rintro e w2 ⟨rfl, hu2⟩
                      exact hKK.out _ hu2
                    simp only [Act.put, List.setIfInBounds_toArray, List.set_cons_zero, List.set_cons_succ, Nat.reduceAdd]
                    (apply Rg.RK.ok; (· intro vs w1 hS; go_simp; with_reducible rfl); (· rfl); simp only [Act.put, List.setIfInBounds_toArray, List.set_cons_zero, List.set_cons_succ, Nat.reduceAdd])
                    apply Rg.RK.call (.bool true) []
                    · rfl
                    · intro vs w1 hK hS _ K hKK
                      go_simp
                      refine (hk2 _ hS.1).mono ?_
                      rintro e w2 ⟨rfl, hu2⟩
                      exact hKK.out _ hu2
                    simp only [Act.put, List.setIfInBounds_toArray, List.set_cons_zero, List.set_cons_succ, Nat.reduceAdd]
                    (apply Rg.RK.ok; (· intro vs w1 hS; go_simp; with_reducible rfl); (· rfl); simp only [Act.put, List.setIfInBounds_toArray, List.set_cons_zero, List.set_cons_succ, Nat.reduceAdd])
                    apply Rg.RK.fin []
                    intro vs wk hK hS hf
                    refine hQN.out _ _ ?_
                    clear hQN
                    have huk := keeps_up hK
                    clear hS hK hf hk1 hk2 hSk
                    go_wp2_with fail
                    have hvk := hv11.up huk
                    have hwk := hw11.up huk
                    have hupk := hup11.trans huk
                    go_roundw
                    case rel => exact ⟨k + 1, m, S, v, A6, n6, c6, A7, n7, c7, by go_num, rfl, by omega, by omega, hupk, hvk, hwk, hlog, by omega⟩
                    case measure => simp [intOf]; omega
                  · kernel_rfl
                | false =>
                  go_wp2_with fail
                  apply Rg.region_up _ (by kernel_rfl) (by kernel_rfl) hSk
                  · intro QN hQN
                    (apply Rg.RK.ok; (· intro vs w1 hS; go_simp; with_reducible rfl); (· rfl); simp only [Act.put, List.setIfInBounds_toArray, List.set_cons_zero, List.set_cons_succ, Nat.reduceAdd])
                    apply Rg.RK.call (.bool false) []
                    · rfl
                    · intro vs w1 hK hS _ K hKK
                      go_simp
                      refine (hk1 _ hS.1).mono ?_
                      rintro e w2 ⟨rfl, hu2⟩
                      exact hKK.out _ hu2
                    simp only [Act.put, List.setIfInBounds_toArray, List.set_cons_zero, List.set_cons_succ, Nat.reduceAdd]
                    (apply Rg.RK.ok; (· intro vs w1 hS; go_simp; with_reducible rfl); (· rfl); simp only [Act.put, List.setIfInBounds_toArray, List.set_cons_zero, List.set_cons_succ, Nat.reduceAdd])
                    apply Rg.RK.call (.bool false) []
                    · rfl
                    · intro vs w1 hK hS _ K hKK
                      go_simp
                      refine (hk2 _ hS.1).mono ?_
                      rintro e w2 ⟨rfl, hu2⟩
                      exact hKK.out _ hu2
                    simp only [Act.put, List.setIfInBounds_toArray, List.set_cons_zero, List.set_cons_succ, Nat.reduceAdd]
                    (apply Rg.RK.ok; (· intro vs w1 hS; go_simp; with_reducible rfl); (· rfl); simp only [Act.put, List.setIfInBounds_toArray, List.set_cons_zero, List.set_cons_succ, Nat.reduceAdd])
                    apply Rg.RK.fin []
                    intro vs wk hK hS hf
                    refine hQN.out _ _ ?_
                    clear hQN
                    have huk := keeps_up hK
                    clear hS hK hf hk1 hk2 hSk
                    go_wp2_with fail
                    have hvk := hv11.up huk
                    have hwk := hw11.up huk
                    have hupk := hup11.trans huk
                    go_roundw
                    case rel => exact ⟨k + 1, m, S, v, A6, n6, c6, A7, n7, c7, by go_num, rfl, by omega, by omega, hupk, hvk, hwk, hlog, by omega⟩
                    case measure => simp [intOf]; omega
                  · kernel_rfl
              · kernel_rfl
            · kernel_rfl
          | some x =>
            unfold C6 at hS
            go_wp2_with fail
            apply Rg.region_up _ (by kernel_rfl) (by kernel_rfl) hS
            · intro QN hQN
              iterate 5 (apply Rg.RK.ok; (· intro vs w1 hS; go_simp; with_reducible rfl); (· rfl); simp only [Act.put, List.setIfInBounds_toArray, List.set_cons_zero, List.set_cons_succ, Nat.reduceAdd])
              apply Rg.RK.opn (GU x x.2.1.length w2.heap.size) (OwnU x x.2.1.length) [] []
              · exact fun v W1 W2 h hs => h.sta hs
              · rfl
              · intro vs w1 hK hS _ K hKK
                have hsz1 := hK.size
                go_simp
                refine (hap _ hS.1).mono ?_
                intro e w2 hp
                obtain ⟨R, rn, rc, rfl, hrd, hrc, hu2, hfr⟩ := hp
                have hrn : rn = x.2.1.length := hrd.flen
                subst hrn
                refine hKK.out _ _ ⟨R, rc, rfl, hrd, hrc, fun a ha => Nat.le_trans hsz1 (hfr a ha).1⟩ (Rg.Keeps.of_up hu2) ?_
                rintro g ⟨o, s, c, he⟩
                have hR := (TU_inj he).1
                have hfr2 := hfr _ hR
                exact ⟨hfr2.2, .inl hfr2.1⟩
              simp only [Act.put, List.setIfInBounds_toArray, List.set_cons_zero, List.set_cons_succ, Nat.reduceAdd]
              apply Rg.RK.opD (fun vs W => vs 6 = vs 5) (fun _ _ => False) [] [] [5] (fun vs vs' h => by rw [h 6 (by simp), h 5 (by simp)]; exact ⟨rfl, rfl⟩)
              · exact fun _ _ _ h _ => h
              · rfl
              · intro vs w1 hK hS _ K hKK
                go_simp
                refine hKK.out _ _ ?_ (Rg.Keeps.refl _ _) (fun g hg => hg.elim)
                rw [Rg.upd_same, Rg.upd_ne _ _ (by decide)]
              simp only [Act.put, List.setIfInBounds_toArray, List.set_cons_zero, List.set_cons_succ, Nat.reduceAdd]
              apply Rg.RK.opD (fun vs W => ∃ R c, vs 5 = TU x R x.2.1.length c ∧ vs 7 = TW x R x.2.1.length c) (fun _ _ => False) [5, 6] [] [5] (fun vs vs' h => by rw [h 7 (by simp), h 5 (by simp)]; exact ⟨rfl, rfl⟩)
              · exact fun _ _ _ h _ => h
              · rfl
              · intro vs w1 hK hS hf K hKK
                obtain ⟨hg, hm, -⟩ := hf
                obtain ⟨R, c, hv, -⟩ := hg
                have hm2 : vs 6 = TU x R x.2.1.length c := Eq.trans hm hv
                (try dsimp only at hKK ⊢)
                rw [hm2] at hKK ⊢
                have HV := Lib.hid hv
                clear hv hm hm2
                unfold TU at hKK ⊢
                go_simp
                exact hKK.out _ _ ⟨R, c, by rw [Rg.upd_ne _ _ (by decide)]; exact HV.out, by rw [Rg.upd_same]⟩ (Rg.Keeps.refl _ _) (fun g hg => hg.elim)
              simp only [Act.put, List.setIfInBounds_toArray, List.set_cons_zero, List.set_cons_succ, Nat.reduceAdd]
              apply Rg.RK.okU [5, 6] (v := .bool true)
              · intro vs w1 hS hf
                obtain ⟨hg, hm, -⟩ := hf
                obtain ⟨R, c, hv, -⟩ := hg
                have hm2 : vs 6 = TU x R x.2.1.length c := Eq.trans hm hv
                (try dsimp only)
                rw [hm2]
                clear hv hm hm2
                unfold TU
                go_simp
              · rfl
              simp only [Act.put, List.setIfInBounds_toArray, List.set_cons_zero, List.set_cons_succ, Nat.reduceAdd]
              apply Rg.RK.opn (fun v W => ∃ g, w2.heap.size ≤ g ∧ v = .pointer (some ⟨g, 0, none⟩) ∧ W.heap[g]? = some (.cells #[.int .i64 0, .slice none 0 0, .int .u64 0, .int .u64 0, .int .u64 0, .int .u64 0] 27 (0, 0))) Rg.ob [] []
              · rintro v W1 W2 ⟨g, hBg, rfl, hh⟩ hs
                exact ⟨g, hBg, rfl, (hs.block g (Array.getElem?_eq_some_iff.1 hh).1 (.inr rfl)).trans hh⟩
              · rfl
              · intro vs w1 hK hS _ K hKK
                go_simp
                exact hKK.out _ _ ⟨w1.heap.size, hK.size, rfl, heap_alloc_new w1 _⟩ (Rg.Keeps.of_up ((Up.refl _).alloc _)) (by rintro g rfl; exact ⟨by simp, .inl (Nat.le_refl _)⟩)
              simp only [Act.put, List.setIfInBounds_toArray, List.set_cons_zero, List.set_cons_succ, Nat.reduceAdd]
              apply Rg.RK.opD (fun vs W => ∃ R c g, vs 5 = TU x R x.2.1.length c ∧ w2.heap.size ≤ g ∧ vs 9 = .pointer (some ⟨g, 0, none⟩) ∧ W.heap[g]? = some (.cells (vcs x R x.2.1.length c) 27 (0, 0))) (fun vs => Rg.ob (vs 9)) [7, 9] [9] [5, 9] (fun vs vs' h => by rw [h 5 (by simp), h 9 (by simp)]; exact ⟨rfl, rfl⟩)
              · rintro vs W1 W2 ⟨R, c, g, h1, hBg, h2, hh⟩ hs
                exact ⟨R, c, g, h1, hBg, h2, (hs.block g (Array.getElem?_eq_some_iff.1 hh).1 (.inr (by rw [h2]; rfl))).trans hh⟩
              · rfl
              · intro vs w1 hK hS hf K hKK
                obtain ⟨h7, h9, -⟩ := hf
                obtain ⟨R, c, hv5, hv7⟩ := h7
                obtain ⟨g, hBg, hv9, hh⟩ := h9
                (try dsimp only at hKK ⊢)
                rw [hv7, hv9] at hKK ⊢
                have HV5 := Lib.hid hv5
                have HV9 := Lib.hid hv9
                clear hv5 hv7 hv9
                have t0 := blk_cell hh 0
                have s0 := blk_free hh 0
                have t1 := blk_cell hh 1
                have s1 := blk_free hh 1
                have t2 := blk_cell hh 2
                have s2 := blk_free hh 2
                have t3 := blk_cell hh 3
                have s3 := blk_free hh 3
                have t4 := blk_cell hh 4
                have s4 := blk_free hh 4
                have t5 := blk_cell hh 5
                have s5 := blk_free hh 5
                have h6 := set6 w1 g _ _ _ _ _ _ (.int .i64 x.1) (.slice R x.2.1.length c) (.int .u64 (x.2.2.1 : Int)) (.int .u64 (x.2.2.2.1 : Int)) (.int .u64 (x.2.2.2.2.1 : Int)) (.int .u64 (x.2.2.2.2.2 : Int)) _ hh
                unfold TW vcs at hKK ⊢
                go_simp
                refine hKK.out undef _ ⟨R, c, g, by rw [Rg.upd_ne _ _ (by decide)]; exact HV5.out, hBg, by rw [Rg.upd_ne _ _ (by decide)]; exact HV9.out, h6.1⟩ (Keeps.weak h6.2 fun y hy => ⟨9, List.mem_singleton.2 rfl, ?_⟩) (fun y hy => ⟨?_, .inr ⟨9, List.mem_singleton.2 rfl, ?_⟩⟩)
                · show Rg.ob (vs 9) y
                  rw [HV9.out]; exact hy.symm
                · have hy' : Rg.ob (vs 9) y := by simpa only [Rg.upd_ne _ _ (show 9 ≠ 10 by decide)] using hy
                  rw [HV9.out] at hy'
                  have hgy : g = y := hy'
                  rw [← hgy]; exact (Array.getElem?_eq_some_iff.1 h6.1).1
                · have hy' : Rg.ob (vs 9) y := by simpa only [Rg.upd_ne _ _ (show 9 ≠ 10 by decide)] using hy
                  exact hy'
              simp only [Act.put, List.setIfInBounds_toArray, List.set_cons_zero, List.set_cons_succ, Nat.reduceAdd]
              (apply Rg.RK.ok; (· intro vs w1 hS; go_simp; with_reducible rfl); (· rfl); simp only [Act.put, List.setIfInBounds_toArray, List.set_cons_zero, List.set_cons_succ, Nat.reduceAdd])
              apply Rg.RK.fin [5, 6, 7, 10]
              intro vs w8 hK hS hf
              obtain ⟨h5, h6, h7, h10, -⟩ := hf
              refine hQN.out _ _ ?_
              clear hQN
              obtain ⟨R, rc, hv5, hrd8, hrc, hfr8⟩ := h5
              obtain ⟨R7, rc7, hw5, hv7⟩ := h7
              obtain ⟨R10, rc10, gx, hx5, hgx, hv9, hh8⟩ := h10
              have hv6 : vs 6 = TU x R x.2.1.length rc := Eq.trans h6 hv5
              obtain ⟨e7, e7c⟩ := TU_inj (hv5.symm.trans hw5)
              obtain ⟨e10, e10c⟩ := TU_inj (hv5.symm.trans hx5)
              subst e7 e7c e10 e10c
              (try dsimp only)
              rw [hv9, hv7, hv6, hv5]
              have hu8 := keeps_up hK
              have hw8 := hw2.up hu8
              clear hS hK hv5 hv6 hv7 hv9 hw5 hx5 h6 hap
              have hS2 : ∀ W, Up w8 W → Up w8 W ∧ C6 W gw v A7 n7 c7 ∧ (W.cell? ⟨b, o + k * 7, none⟩ = some (.slice e.D e.dn e.dc) ∧ W.cell? ⟨b, o + k * 7 + 1, none⟩ = some (.slice e.A e.an e.ac) ∧ W.cell? ⟨b, o + k * 7 + 2, none⟩ = some (.int .i64 e.lg) ∧ W.cell? ⟨b, o + k * 7 + 3, none⟩ = some (.int .u64 (e.f : Int)) ∧ W.cell? ⟨b, o + k * 7 + 4, none⟩ = some (.int .u64 (e.ce : Int)) ∧ W.cell? ⟨b, o + k * 7 + 5, none⟩ = some (.int .u64 (e.at_ : Int)) ∧ W.cell? ⟨b, o + k * 7 + 6, none⟩ = some (.int .u64 (e.le : Int))) := fun W h => ⟨h, vw_c6 (hw8.up h).blk, HC.out W (hu8.trans h)⟩
              unfold C6 at hS2
              have hrp := fun W (h : Up w8 W) => HRP.out W (hu8.trans h)
              go_wp2_with fail
              apply Rg.region_up _ (by kernel_rfl) (by kernel_rfl) hS2
              · intro QN hQN
                iterate 5 (apply Rg.RK.ok; (· intro vs w1 hS; go_simp; with_reducible rfl); (· rfl); simp only [Act.put, List.setIfInBounds_toArray, List.set_cons_zero, List.set_cons_succ, Nat.reduceAdd])
                apply Rg.RK.opn (GU x x.2.1.length w8.heap.size) (OwnU x x.2.1.length) [] []
                · exact fun v W1 W2 h hs => h.sta hs
                · rfl
                · intro vs w1 hK hS _ K hKK
                  have hsz1 := hK.size
                  go_simp
                  refine (hrp _ hS.1).mono ?_
                  intro e w2 hp
                  obtain ⟨R, rn, rc, rfl, hrd, hrc, hu2, hfr⟩ := hp
                  have hrn : rn = x.2.1.length := hrd.flen
                  subst hrn
                  refine hKK.out _ _ ⟨R, rc, rfl, hrd, hrc, fun a ha => Nat.le_trans hsz1 (hfr a ha).1⟩ (Rg.Keeps.of_up hu2) ?_
                  rintro g ⟨o, s, c, he⟩
                  have hR := (TU_inj he).1
                  have hfr2 := hfr _ hR
                  exact ⟨hfr2.2, .inl hfr2.1⟩
                simp only [Act.put, List.setIfInBounds_toArray, List.set_cons_zero, List.set_cons_succ, Nat.reduceAdd]
                apply Rg.RK.opD (fun vs W => vs 6 = vs 5) (fun _ _ => False) [] [] [5] (fun vs vs' h => by rw [h 6 (by simp), h 5 (by simp)]; exact ⟨rfl, rfl⟩)
                · exact fun _ _ _ h _ => h
                · rfl
                · intro vs w1 hK hS _ K hKK
                  go_simp
                  refine hKK.out _ _ ?_ (Rg.Keeps.refl _ _) (fun g hg => hg.elim)
                  rw [Rg.upd_same, Rg.upd_ne _ _ (by decide)]
                simp only [Act.put, List.setIfInBounds_toArray, List.set_cons_zero, List.set_cons_succ, Nat.reduceAdd]
                apply Rg.RK.opD (fun vs W => ∃ R c, vs 5 = TU x R x.2.1.length c ∧ vs 7 = TW x R x.2.1.length c) (fun _ _ => False) [5, 6] [] [5] (fun vs vs' h => by rw [h 7 (by simp), h 5 (by simp)]; exact ⟨rfl, rfl⟩)
                · exact fun _ _ _ h _ => h
                · rfl
                · intro vs w1 hK hS hf K hKK
                  obtain ⟨hg, hm, -⟩ := hf
                  obtain ⟨R, c, hv, -⟩ := hg
                  have hm2 : vs 6 = TU x R x.2.1.length c := Eq.trans hm hv
                  (try dsimp only at hKK ⊢)
                  rw [hm2] at hKK ⊢
                  have HV := Lib.hid hv
                  clear hv hm hm2
                  unfold TU at hKK ⊢
                  go_simp
                  exact hKK.out _ _ ⟨R, c, by rw [Rg.upd_ne _ _ (by decide)]; exact HV.out, by rw [Rg.upd_same]⟩ (Rg.Keeps.refl _ _) (fun g hg => hg.elim)
                simp only [Act.put, List.setIfInBounds_toArray, List.set_cons_zero, List.set_cons_succ, Nat.reduceAdd]
                apply Rg.RK.okU [5, 6] (v := .bool true)
                · intro vs w1 hS hf
                  obtain ⟨hg, hm, -⟩ := hf
                  obtain ⟨R, c, hv, -⟩ := hg
                  have hm2 : vs 6 = TU x R x.2.1.length c := Eq.trans hm hv
                  (try dsimp only)
                  rw [hm2]
                  clear hv hm hm2
                  unfold TU
                  go_simp
                · rfl
                simp only [Act.put, List.setIfInBounds_toArray, List.set_cons_zero, List.set_cons_succ, Nat.reduceAdd]
                apply Rg.RK.opn (fun v W => ∃ g, w8.heap.size ≤ g ∧ v = .pointer (some ⟨g, 0, none⟩) ∧ W.heap[g]? = some (.cells #[.int .i64 0, .slice none 0 0, .int .u64 0, .int .u64 0, .int .u64 0, .int .u64 0] 27 (0, 0))) Rg.ob [] []
                · rintro v W1 W2 ⟨g, hBg, rfl, hh⟩ hs
                  exact ⟨g, hBg, rfl, (hs.block g (Array.getElem?_eq_some_iff.1 hh).1 (.inr rfl)).trans hh⟩
                · rfl
                · intro vs w1 hK hS _ K hKK
                  go_simp
                  exact hKK.out _ _ ⟨w1.heap.size, hK.size, rfl, heap_alloc_new w1 _⟩ (Rg.Keeps.of_up ((Up.refl _).alloc _)) (by rintro g rfl; exact ⟨by simp, .inl (Nat.le_refl _)⟩)
                simp only [Act.put, List.setIfInBounds_toArray, List.set_cons_zero, List.set_cons_succ, Nat.reduceAdd]
                apply Rg.RK.opD (fun vs W => ∃ R c g, vs 5 = TU x R x.2.1.length c ∧ w8.heap.size ≤ g ∧ vs 9 = .pointer (some ⟨g, 0, none⟩) ∧ W.heap[g]? = some (.cells (vcs x R x.2.1.length c) 27 (0, 0))) (fun vs => Rg.ob (vs 9)) [7, 9] [9] [5, 9] (fun vs vs' h => by rw [h 5 (by simp), h 9 (by simp)]; exact ⟨rfl, rfl⟩)
                · rintro vs W1 W2 ⟨R, c, g, h1, hBg, h2, hh⟩ hs
                  exact ⟨R, c, g, h1, hBg, h2, (hs.block g (Array.getElem?_eq_some_iff.1 hh).1 (.inr (by rw [h2]; rfl))).trans hh⟩
                · rfl
                · intro vs w1 hK hS hf K hKK
                  obtain ⟨h7, h9, -⟩ := hf
                  obtain ⟨R, c, hv5, hv7⟩ := h7
                  obtain ⟨g, hBg, hv9, hh⟩ := h9
                  (try dsimp only at hKK ⊢)
                  rw [hv7, hv9] at hKK ⊢
                  have HV5 := Lib.hid hv5
                  have HV9 := Lib.hid hv9
                  clear hv5 hv7 hv9
                  have t0 := blk_cell hh 0
                  have s0 := blk_free hh 0
                  have t1 := blk_cell hh 1
                  have s1 := blk_free hh 1
                  have t2 := blk_cell hh 2
                  have s2 := blk_free hh 2
                  have t3 := blk_cell hh 3
                  have s3 := blk_free hh 3
                  have t4 := blk_cell hh 4
                  have s4 := blk_free hh 4
                  have t5 := blk_cell hh 5
                  have s5 := blk_free hh 5
                  have h6 := set6 w1 g _ _ _ _ _ _ (.int .i64 x.1) (.slice R x.2.1.length c) (.int .u64 (x.2.2.1 : Int)) (.int .u64 (x.2.2.2.1 : Int)) (.int .u64 (x.2.2.2.2.1 : Int)) (.int .u64 (x.2.2.2.2.2 : Int)) _ hh
                  unfold TW vcs at hKK ⊢
                  go_simp
                  refine hKK.out undef _ ⟨R, c, g, by rw [Rg.upd_ne _ _ (by decide)]; exact HV5.out, hBg, by rw [Rg.upd_ne _ _ (by decide)]; exact HV9.out, h6.1⟩ (Keeps.weak h6.2 fun y hy => ⟨9, List.mem_singleton.2 rfl, ?_⟩) (fun y hy => ⟨?_, .inr ⟨9, List.mem_singleton.2 rfl, ?_⟩⟩)
                  · show Rg.ob (vs 9) y
                    rw [HV9.out]; exact hy.symm
                  · have hy' : Rg.ob (vs 9) y := by simpa only [Rg.upd_ne _ _ (show 9 ≠ 10 by decide)] using hy
                    rw [HV9.out] at hy'
                    have hgy : g = y := hy'
                    rw [← hgy]; exact (Array.getElem?_eq_some_iff.1 h6.1).1
                  · have hy' : Rg.ob (vs 9) y := by simpa only [Rg.upd_ne _ _ (show 9 ≠ 10 by decide)] using hy
                    exact hy'
                simp only [Act.put, List.setIfInBounds_toArray, List.set_cons_zero, List.set_cons_succ, Nat.reduceAdd]
                (apply Rg.RK.ok; (· intro vs w1 hS; go_simp; with_reducible rfl); (· rfl); simp only [Act.put, List.setIfInBounds_toArray, List.set_cons_zero, List.set_cons_succ, Nat.reduceAdd])
                apply Rg.RK.fin [5, 6, 7, 10]
                intro vs w9 hK hS hf
                obtain ⟨h5, h6, h7, h10, -⟩ := hf
                refine hQN.out _ _ ?_
                clear hQN
                obtain ⟨Q, qc, hv5, hrd9, hqc, hfr9⟩ := h5
                obtain ⟨R7, rc7, hw5, hv7⟩ := h7
                obtain ⟨R10, rc10, gy, hx5, hgy, hv9, hh9⟩ := h10
                have hv6 : vs 6 = TU x Q x.2.1.length qc := Eq.trans h6 hv5
                obtain ⟨e7, e7c⟩ := TU_inj (hv5.symm.trans hw5)
                obtain ⟨e10, e10c⟩ := TU_inj (hv5.symm.trans hx5)
                subst e7 e7c e10 e10c
                (try dsimp only)
                rw [hv9, hv7, hv6, hv5]
                have hu9 := keeps_up hK
                have hx9 := blk_upE hu9 hh8
                have hv9' := hv2.up (hu8.trans hu9)
                have hw9 := hw8.up hu9
                have hup9 := hup2.trans (hu8.trans hu9)
                have hrx9 := hrd8.up hu9
                have hlx : x.2.1.length ≤ 40 := applyE_len (v := v) (e := (e.ds, e.add, e.lg, e.f, e.ce, e.at_, e.le)) HR0.out.symm
                have hgvl := Nat.lt_of_lt_of_le (Array.getElem?_eq_some_iff.1 hv2.blk).1 (Nat.le_refl _)
                have hgwl := Nat.lt_of_lt_of_le (Array.getElem?_eq_some_iff.1 hw2.blk).1 (Nat.le_refl _)
                have h28 := hu8.size
                have hvx : VX gx x R x.2.1.length rc w9 := ⟨hx9, hrx9, hrc, hlx⟩
                have hvy : VX gy x Q x.2.1.length qc w9 := ⟨hh9, hrd9, hqc, hlx⟩
                have hu29 := hu8.trans hu9
                clear hS hK hv5 hv6 hv7 hv9 hw5 hx5 h6 hrp hh8 hu8 hu9 hS2 hv2 hw2 hup2 hw8 hrx9 hrd9 hrd8 hx9 hh9
                unfold TU TW
                have HSV := Lib.hid (sameV_self (x))
                obtain ⟨q0, q1, q2, q3, q4, q5⟩ := vw_c6 (hvx).blk
                obtain ⟨r0, r1, r2, r3, r4, r5⟩ := vw_c6 (hvy).blk
                go_wp2_with fail
                clear q0 q1 q2 q3 q4 q5 r0 r1 r2 r3 r4 r5
                refine (vsame_any (x).1 (R) (x.2.1.length) (rc) (x).2.1 (x).2.2.1 (x).2.2.2.1 (x).2.2.2.2.1 (x).2.2.2.2.2 (x).1 (Q) (x.2.1.length) (qc) (x).2.1 (x).2.2.1 (x).2.2.2.1 (x).2.2.2.2.1 (x).2.2.2.2.2 w9 hvx.rd hvy.rd (by have := hvx.le; omega) (by have := hvy.le; omega)).mono ?_
                rintro e3 w10 ⟨rfl, hu10⟩
                rw [HSV.out]
                have hvx10 := hvx.up hu10
                have hvy10 := hvy.up hu10
                have hv10 := hv9'.up hu10
                have hw10 := hw9.up hu10
                have hup10 := hup9.trans hu10
                clear hvx hvy hv9' hw9 hup9
                obtain ⟨q0, q1, q2, q3, q4, q5⟩ := vw_c6 (hvx10).blk
                obtain ⟨r0, r1, r2, r3, r4, r5⟩ := vw_c6 (hvy10).blk
                go_wp2_with fail
                clear q0 q1 q2 q3 q4 q5 r0 r1 r2 r3 r4 r5
                refine (sameView_any (x).1 (R) (x.2.1.length) (rc) (x).2.1 (x).2.2.1 (x).2.2.2.1 (x).2.2.2.2.1 (x).2.2.2.2.2 (x).1 (Q) (x.2.1.length) (qc) (x).2.1 (x).2.2.1 (x).2.2.2.1 (x).2.2.2.2.1 (x).2.2.2.2.2 w10 hvx10.rd hvy10.rd (by have := hvx10.le; omega) (by have := hvy10.le; omega)).mono ?_
                rintro e4 w11 ⟨rfl, hu11⟩
                rw [HSV.out]
                have hvx11 := hvx10.up hu11
                have hvy11 := hvy10.up hu11
                have hv11 := hv10.up hu11
                have hw11 := hw10.up hu11
                have hup11 := hup10.trans hu11
                clear hvx10 hvy10 hv10 hw10 hup10 HSV
                obtain ⟨z0, z1, z2, z3, z4, z5, z6⟩ := HC.out w11 (hu29.trans (hu10.trans hu11))
                go_wp2_with fail
                clear z0 z1 z2 z3 z4 z5 z6
                refine (rmay_any e.D e.dn e.dc e.ds e.A e.an e.ac e.add e.lg e.f e.ce e.at_ e.le w11 (hed.rd.up hup11) (by omega) (hed.ra.up hup11) (by omega)).mono ?_
                rintro e5 w12 ⟨rfl, hu12⟩
                have hvx12 := hvx11.up hu12
                have hvy12 := hvy11.up hu12
                have hv12 := hv11.up hu12
                have hw12 := hw11.up hu12
                have hup12 := hup11.trans hu12
                have hu212 := hu29.trans (hu10.trans (hu11.trans hu12))
                clear hvx11 hvy11 hv11 hw11 hup11 hu12 hu10 hu11 hu29
                obtain ⟨mb, hmb⟩ : ∃ mb, mb = mayE e.ds e.add e.lg e.f e.ce e.at_ e.le := ⟨_, rfl⟩
                rw [← hmb]
                have HMB := Lib.hid hmb
                clear hmb
                cases mb with
                | false =>
                  rw [show ((mayN false : Nat) : Int) = 1 from rfl]
                  obtain ⟨vb, hvb⟩ : ∃ vb, vb = viewOk (x).1 (x).2.1 (x).2.2.1 (x).2.2.2.1 (x).2.2.2.2.1 (x).2.2.2.2.2 := ⟨_, rfl⟩
                  have hk1 := fun W (h : Up w12 W) => vok_any (x).1 (R) (x.2.1.length) (rc) (x).2.1 (x).2.2.1 (x).2.2.2.1 (x).2.2.2.2.1 (x).2.2.2.2.2 W ((hvx12).rd.up h) (hvx12).nc (by have := (hvx12).le; omega)
                  have hk2 := fun W (h : Up w12 W) => rvok_any (x).1 (R) (x.2.1.length) (rc) (x).2.1 (x).2.2.1 (x).2.2.2.1 (x).2.2.2.2.1 (x).2.2.2.2.2 W ((hvx12).rd.up h) (by have := (hvx12).le; omega)
                  rw [← hvb] at hk1 hk2
                  clear hvb
                  have hSk : ∀ W, Up w12 W → Up w12 W ∧ C6 W gx (x) (R) (x.2.1.length) (rc) := fun W h => ⟨h, vw_c6 ((hvx12).up h).blk⟩
                  unfold C6 at hSk
                  cases vb with
                  | true =>
                    go_wp2_with fail
                    apply Rg.region_up _ (by kernel_rfl) (by kernel_rfl) hSk
                    · intro QN hQN
                      (apply Rg.RK.ok; (· intro vs w1 hS; go_simp; with_reducible rfl); (· rfl); simp only [Act.put, List.setIfInBounds_toArray, List.set_cons_zero, List.set_cons_succ, Nat.reduceAdd])
                      apply Rg.RK.call (.bool true) []
                      · rfl
                      · intro vs w1 hK hS _ K hKK
                        go_simp
                        refine (hk1 _ hS.1).mono ?_
                        rintro e w2 ⟨rfl, hu2⟩
                        exact hKK.out _ hu2
                      simp only [Act.put, List.setIfInBounds_toArray, List.set_cons_zero, List.set_cons_succ, Nat.reduceAdd]
                      (apply Rg.RK.ok; (· intro vs w1 hS; go_simp; with_reducible rfl); (· rfl); simp only [Act.put, List.setIfInBounds_toArray, List.set_cons_zero, List.set_cons_succ, Nat.reduceAdd])
                      apply Rg.RK.call (.bool true) []
                      · rfl
                      · intro vs w1 hK hS _ K hKK
                        go_simp
                        refine (hk2 _ hS.1).mono ?_
                        rintro e w2 ⟨rfl, hu2⟩
                        exact hKK.out _ hu2
                      simp only [Act.put, List.setIfInBounds_toArray, List.set_cons_zero, List.set_cons_succ, Nat.reduceAdd]
                      (apply Rg.RK.ok; (· intro vs w1 hS; go_simp; with_reducible rfl); (· rfl); simp only [Act.put, List.setIfInBounds_toArray, List.set_cons_zero, List.set_cons_succ, Nat.reduceAdd])
                      apply Rg.RK.fin []
                      intro vs wk hK hS hf
                      refine hQN.out _ _ ?_
                      clear hQN
                      have huk := keeps_up hK
                      clear hS hK hf hk1 hk2 hSk
                      go_wp2_with fail
                      have hvk := hv12.up huk
                      have hwk := hw12.up huk
                      have hupk := hup12.trans huk
                      go_roundw
                      case rel => exact ⟨k + 1, m, S, v, A6, n6, c6, A7, n7, c7, by go_num, rfl, by omega, by omega, hupk, hvk, hwk, hlog, by omega⟩
                      case measure => simp [intOf]; omega
                    · kernel_rfl
                  | false =>
                    go_wp2_with fail
                    apply Rg.region_up _ (by kernel_rfl) (by kernel_rfl) hSk
                    · intro QN hQN
                      (apply Rg.RK.ok; (· intro vs w1 hS; go_simp; with_reducible rfl); (· rfl); simp only [Act.put, List.setIfInBounds_toArray, List.set_cons_zero, List.set_cons_succ, Nat.reduceAdd])
                      apply Rg.RK.call (.bool false) []
                      · rfl
                      · intro vs w1 hK hS _ K hKK
                        go_simp
                        refine (hk1 _ hS.1).mono ?_
                        rintro e w2 ⟨rfl, hu2⟩
                        exact hKK.out _ hu2
                      simp only [Act.put, List.setIfInBounds_toArray, List.set_cons_zero, List.set_cons_succ, Nat.reduceAdd]
                      (apply Rg.RK.ok; (· intro vs w1 hS; go_simp; with_reducible rfl); (· rfl); simp only [Act.put, List.setIfInBounds_toArray, List.set_cons_zero, List.set_cons_succ, Nat.reduceAdd])
                      apply Rg.RK.call (.bool false) []
                      · rfl
                      · intro vs w1 hK hS _ K hKK
                        go_simp
                        refine (hk2 _ hS.1).mono ?_
                        rintro e w2 ⟨rfl, hu2⟩
                        exact hKK.out _ hu2
                      simp only [Act.put, List.setIfInBounds_toArray, List.set_cons_zero, List.set_cons_succ, Nat.reduceAdd]
                      (apply Rg.RK.ok; (· intro vs w1 hS; go_simp; with_reducible rfl); (· rfl); simp only [Act.put, List.setIfInBounds_toArray, List.set_cons_zero, List.set_cons_succ, Nat.reduceAdd])
                      apply Rg.RK.fin []
                      intro vs wk hK hS hf
                      refine hQN.out _ _ ?_
                      clear hQN
                      have huk := keeps_up hK
                      clear hS hK hf hk1 hk2 hSk
                      go_wp2_with fail
                      have hvk := hv12.up huk
                      have hwk := hw12.up huk
                      have hupk := hup12.trans huk
                      go_roundw
                      case rel => exact ⟨k + 1, m, S, v, A6, n6, c6, A7, n7, c7, by go_num, rfl, by omega, by omega, hupk, hvk, hwk, hlog, by omega⟩
                      case measure => simp [intOf]; omega
                    · kernel_rfl
                | true =>
                  rw [show ((mayN true : Nat) : Int) = 0 from rfl]
                  have hS3 : ∀ W, Up w12 W → C6 W gx x R x.2.1.length rc ∧ C6 W gy x Q x.2.1.length qc := fun W h => ⟨vw_c6 (hvx12.up h).blk, vw_c6 (hvy12.up h).blk⟩
                  obtain ⟨⟨q0, q1, q2, q3, q4, q5⟩, ⟨r0, r1, r2, r3, r4, r5⟩⟩ := hS3 w12 (Up.refl _)
                  have hbv := hv12.blk
                  have hbw := hw12.blk
                  obtain ⟨t0, t1, t2, t3, t4, t5⟩ := vw_c6 hbv
                  obtain ⟨y0, y1, y2, y3, y4, y5⟩ := vw_c6 hbw
                  have s0 := blk_free hbv 0
                  have x0 := blk_free hbw 0
                  have s1 := blk_free hbv 1
                  have x1 := blk_free hbw 1
                  have s2 := blk_free hbv 2
                  have x2 := blk_free hbw 2
                  have s3 := blk_free hbv 3
                  have x3 := blk_free hbw 3
                  have s4 := blk_free hbv 4
                  have x4 := blk_free hbw 4
                  have s5 := blk_free hbv 5
                  have x5 := blk_free hbw 5
                  have n1 : gx ≠ gv := by omega
                  have n2 : gx ≠ gw := by omega
                  have n3 : gy ≠ gv := by omega
                  have n4 : gy ≠ gw := by omega
                  have n5 : gw ≠ gv := by omega
                  have h6 := set6 w12 gv _ _ _ _ _ _ (.int .i64 x.1) (.slice R x.2.1.length rc) (.int .u64 (x.2.2.1 : Int)) (.int .u64 (x.2.2.2.1 : Int)) (.int .u64 (x.2.2.2.2.1 : Int)) (.int .u64 (x.2.2.2.2.2 : Int)) _ hbv
                  have hbw2 := (h6.2.block gw (Array.getElem?_eq_some_iff.1 hbw).1 n5).trans hbw
                  go_wp2_with fail
                  go_region
                  clear q0 q1 q2 q3 q4 q5 r0 r1 r2 r3 r4 r5 t0 t1 t2 t3 t4 t5 y0 y1 y2 y3 y4 y5 s0 s1 s2 s3 s4 s5 x0 x1 x2 x3 x4 x5 hbv hbw hS3
                  generalize ((((((w12.setCell ⟨gv, 0, none⟩ (.int .i64 x.1)).setCell ⟨gv, 1, none⟩ (.slice R x.2.1.length rc)).setCell ⟨gv, 2, none⟩ (.int .u64 (x.2.2.1 : Int))).setCell ⟨gv, 3, none⟩ (.int .u64 (x.2.2.2.1 : Int))).setCell ⟨gv, 4, none⟩ (.int .u64 (x.2.2.2.2.1 : Int))).setCell ⟨gv, 5, none⟩ (.int .u64 (x.2.2.2.2.2 : Int))) = w13 at *
                  have h7 := set6 w13 gw _ _ _ _ _ _ (.int .i64 x.1) (.slice Q x.2.1.length qc) (.int .u64 (x.2.2.1 : Int)) (.int .u64 (x.2.2.2.1 : Int)) (.int .u64 (x.2.2.2.2.1 : Int)) (.int .u64 (x.2.2.2.2.2 : Int)) _ hbw2
                  generalize ((((((w13.setCell ⟨gw, 0, none⟩ (.int .i64 x.1)).setCell ⟨gw, 1, none⟩ (.slice Q x.2.1.length qc)).setCell ⟨gw, 2, none⟩ (.int .u64 (x.2.2.1 : Int))).setCell ⟨gw, 3, none⟩ (.int .u64 (x.2.2.2.1 : Int))).setCell ⟨gw, 4, none⟩ (.int .u64 (x.2.2.2.2.1 : Int))).setCell ⟨gw, 5, none⟩ (.int .u64 (x.2.2.2.2.2 : Int))) = w14 at *
                  have hgv13 := (Array.getElem?_eq_some_iff.1 h6.1).1
                  have hbv14 : w14.heap[gv]? = some (.cells (vcs x R x.2.1.length rc) 27 (0, 0)) := (h7.2.block gv hgv13 (by omega)).trans h6.1
                  have hbx13 := (h6.2.block gx (Array.getElem?_eq_some_iff.1 hvx12.blk).1 n1).trans hvx12.blk
                  have hbx14 := (h7.2.block gx (Array.getElem?_eq_some_iff.1 hbx13).1 n2).trans hbx13
                  have hrx14 := (hvx12.rd.keepsNe (Nat.le_refl _) (g := gv) (fun a ha => by have := hfr8 a ha; omega) h6.2).keepsNe (Nat.le_refl _) (g := gw) (fun a ha => by have := hfr8 a ha; omega) h7.2
                  have hry14 := (hvy12.rd.keepsNe (Nat.le_refl _) (g := gv) (fun a ha => by have := hfr9 a ha; omega) h6.2).keepsNe (Nat.le_refl _) (g := gw) (fun a ha => by have := hfr9 a ha; omega) h7.2
                  have hv14 : VW gv x R x.2.1.length rc w14 := ⟨hbv14, hrx14, hrc, hlx, fun a ha => by have := hfr8 a ha; omega⟩
                  have hw14 : VW gw x Q x.2.1.length qc w14 := ⟨h7.1, hry14, hqc, hlx, fun a ha => by have := hfr9 a ha; omega⟩
                  have hvx14 : VX gx x R x.2.1.length rc w14 := ⟨hbx14, hrx14, hrc, hlx⟩
                  have hup14 := keepsUp (keepsUp hup12 hgw h6.2) hgw3 h7.2
                  have hlog2 : Hid (LogI (S ++ frameB 6 (editB e.ds e.add e.lg e.f e.ce e.at_ e.le)) x (m + 1)) := Lib.hid (hlog.out.snoc HMB.out.symm HR0.out.symm)
                  have hFl : (frameB 6 (editB e.ds e.add e.lg e.f e.ce e.at_ e.le)).length ≤ 1712 := by have := editB_le HMB.out.symm; rw [frameB_len]; omega
                  clear hvx12 hvy12 hv12 hw12 hup12 hu212 h6 h7 hbw2 hgv13 hbv14 hbx13 hbx14 hrx14 hry14
                  have hdr : Up w14 w14.drew := Up.drew (Up.refl _)
                  replace hvx14 := hvx14.up hdr
                  replace hv14 := hv14.up hdr
                  replace hw14 := hw14.up hdr
                  replace hup14 := hup14.trans hdr
                  generalize w14.drew = w14 at *
                  clear hdr
                  obtain ⟨z0, z1, z2, z3, z4, z5, z6⟩ := hcell w14 hup14
                  go_wp2_with fail
                  clear z0 z1 z2 z3 z4 z5 z6
                  refine (redit_any e.D e.dn e.dc e.ds e.A e.an e.ac e.add e.lg e.f e.ce e.at_ e.le w14 (hed.rd.up hup14) (by omega) (hed.ra.up hup14) (by omega) HMB.out.symm).mono ?_
                  rintro e6 w15 ⟨rfl, hu15⟩
                  have hv15 := hv14.up hu15
                  have hw15 := hw14.up hu15
                  have hvx15 := hvx14.up hu15
                  have hup15 := hup14.trans hu15
                  clear hvx14 hv14 hw14 hup14 hu15
                  generalize frameB 6 (editB e.ds e.add e.lg e.f e.ce e.at_ e.le) = F at *
                  have hcat : tx S ++ tx F = tx (cc S F) := tx_append' _ _
                  have hnz : ¬ (9223372036854775807 < (tx S).size + (tx F).size) := by rw [tx_size, tx_size]; omega
                  obtain ⟨vb, hvb⟩ : ∃ vb, vb = viewOk (x).1 (x).2.1 (x).2.2.1 (x).2.2.2.1 (x).2.2.2.2.1 (x).2.2.2.2.2 := ⟨_, rfl⟩
                  have hk1 := fun W (h : Up w15 W) => vok_any (x).1 (R) (x.2.1.length) (rc) (x).2.1 (x).2.2.1 (x).2.2.2.1 (x).2.2.2.2.1 (x).2.2.2.2.2 W ((hvx15).rd.up h) (hvx15).nc (by have := (hvx15).le; omega)
                  have hk2 := fun W (h : Up w15 W) => rvok_any (x).1 (R) (x.2.1.length) (rc) (x).2.1 (x).2.2.1 (x).2.2.2.1 (x).2.2.2.2.1 (x).2.2.2.2.2 W ((hvx15).rd.up h) (by have := (hvx15).le; omega)
                  rw [← hvb] at hk1 hk2
                  clear hvb
                  have hSk : ∀ W, Up w15 W → Up w15 W ∧ C6 W gx (x) (R) (x.2.1.length) (rc) := fun W h => ⟨h, vw_c6 ((hvx15).up h).blk⟩
                  unfold C6 at hSk
                  cases vb with
                  | true =>
                    go_wp2_with fail
                    apply Rg.region_up _ (by kernel_rfl) (by kernel_rfl) hSk
                    · intro QN hQN
                      (apply Rg.RK.ok; (· intro vs w1 hS; go_simp; with_reducible rfl); (· rfl); simp only [Act.put, List.setIfInBounds_toArray, List.set_cons_zero, List.set_cons_succ, Nat.reduceAdd])
                      apply Rg.RK.call (.bool true) []
                      · rfl
                      · intro vs w1 hK hS _ K hKK
                        go_simp
                        refine (hk1 _ hS.1).mono ?_
                        rintro e w2 ⟨rfl, hu2⟩
                        exact hKK.out _ hu2
                      simp only [Act.put, List.setIfInBounds_toArray, List.set_cons_zero, List.set_cons_succ, Nat.reduceAdd]
                      (apply Rg.RK.ok; (· intro vs w1 hS; go_simp; with_reducible rfl); (· rfl); simp only [Act.put, List.setIfInBounds_toArray, List.set_cons_zero, List.set_cons_succ, Nat.reduceAdd])
                      apply Rg.RK.call (.bool true) []
                      · rfl
                      · intro vs w1 hK hS _ K hKK
                        go_simp
                        refine (hk2 _ hS.1).mono ?_
                        rintro e w2 ⟨rfl, hu2⟩
                        exact hKK.out _ hu2
                      simp only [Act.put, List.setIfInBounds_toArray, List.set_cons_zero, List.set_cons_succ, Nat.reduceAdd]
                      (apply Rg.RK.ok; (· intro vs w1 hS; go_simp; with_reducible rfl); (· rfl); simp only [Act.put, List.setIfInBounds_toArray, List.set_cons_zero, List.set_cons_succ, Nat.reduceAdd])
                      apply Rg.RK.fin []
                      intro vs wk hK hS hf
                      refine hQN.out _ _ ?_
                      clear hQN
                      have huk := keeps_up hK
                      clear hS hK hf hk1 hk2 hSk
                      go_wp2_with fail
                      have hvk := hv15.up huk
                      have hwk := hw15.up huk
                      have hupk := hup15.trans huk
                      go_roundw
                      case rel => exact ⟨k + 1, m + 1, cc S F, x, R, x.2.1.length, rc, Q, x.2.1.length, qc, by go_num, rfl, by omega, by omega, hupk, hvk, hwk, hlog2, by rw [cc_length]; omega⟩
                      case measure => simp [intOf]; omega
                    · kernel_rfl
                  | false =>
                    go_wp2_with fail
                    apply Rg.region_up _ (by kernel_rfl) (by kernel_rfl) hSk
                    · intro QN hQN
                      (apply Rg.RK.ok; (· intro vs w1 hS; go_simp; with_reducible rfl); (· rfl); simp only [Act.put, List.setIfInBounds_toArray, List.set_cons_zero, List.set_cons_succ, Nat.reduceAdd])
                      apply Rg.RK.call (.bool false) []
                      · rfl
                      · intro vs w1 hK hS _ K hKK
                        go_simp
                        refine (hk1 _ hS.1).mono ?_
                        rintro e w2 ⟨rfl, hu2⟩
                        exact hKK.out _ hu2
                      simp only [Act.put, List.setIfInBounds_toArray, List.set_cons_zero, List.set_cons_succ, Nat.reduceAdd]
                      (apply Rg.RK.ok; (· intro vs w1 hS; go_simp; with_reducible rfl); (· rfl); simp only [Act.put, List.setIfInBounds_toArray, List.set_cons_zero, List.set_cons_succ, Nat.reduceAdd])
                      apply Rg.RK.call (.bool false) []
                      · rfl
                      · intro vs w1 hK hS _ K hKK
                        go_simp
                        refine (hk2 _ hS.1).mono ?_
                        rintro e w2 ⟨rfl, hu2⟩
                        exact hKK.out _ hu2
                      simp only [Act.put, List.setIfInBounds_toArray, List.set_cons_zero, List.set_cons_succ, Nat.reduceAdd]
                      (apply Rg.RK.ok; (· intro vs w1 hS; go_simp; with_reducible rfl); (· rfl); simp only [Act.put, List.setIfInBounds_toArray, List.set_cons_zero, List.set_cons_succ, Nat.reduceAdd])
                      apply Rg.RK.fin []
                      intro vs wk hK hS hf
                      refine hQN.out _ _ ?_
                      clear hQN
                      have huk := keeps_up hK
                      clear hS hK hf hk1 hk2 hSk
                      go_wp2_with fail
                      have hvk := hv15.up huk
                      have hwk := hw15.up huk
                      have hupk := hup15.trans huk
                      go_roundw
                      case rel => exact ⟨k + 1, m + 1, cc S F, x, R, x.2.1.length, rc, Q, x.2.1.length, qc, by go_num, rfl, by omega, by omega, hupk, hvk, hwk, hlog2, by rw [cc_length]; omega⟩
                      case measure => simp [intOf]; omega
                    · kernel_rfl
              · kernel_rfl
            · kernel_rfl
        · have hfb : decide (e.dn ≤ 60 ∧ e.an ≤ 60) = false := by simp; omega
          rw [hfb]
          clear hfb
          go_wp2_with (go_at_call 11; with_reducible refine (awake15_any _).mono ?_; rintro e w7 ⟨rfl, hu7⟩)
          go_ret
          exact ⟨rfl, (hup.trans hu2).trans hu7⟩
      · have h20e : k = 20 := by omega
        have i1 : (k : Int) < (n : Int) := by omega
        have i2 : ¬ (k : Int) < 20 := by omega
        clear h20e
        obtain ⟨c5, w5, hconv, hcap, hbeg, hu5⟩ := conv_beg wr S
        have hg5 : w.heap.size ≤ wr.heap.size := hup.size
        generalize hg7 : wr.heap.size = g5 at hconv hbeg hg5
        have hw5 := hw.up hu5
        have hup5 := hup.trans hu5
        have hend0 := Lib.hid hlog.out.end_
        have hSl : S.length ≤ 36000 := by omega
        clear hv hw hup hu5 hlog hg7 hsl
        go_wp2_with fail
        clear hconv
        go_loopw [17, 18] (fun sl i wr => ∃ (j : Nat) (T : List UInt8) (d : Nat), i = .int .i64 (j : Int) ∧ sl = .slice (some ⟨g5, 0, none⟩) T.length d ∧ T.length ≤ d ∧ j ≤ 2 ∧ T.length ≤ 36000 ∧ Up w wr ∧ Beg g5 T wr ∧ Hid (j = 0 → VW gw v A7 n7 c7 wr ∧ replP T = if T.length = 0 then none else some (v, T.length))) (fun _ i _ => 2 - (intOf i).toNat)
        case atStart => exact ⟨0, S, c5, rfl, rfl, hcap, by omega, hSl, hup5, hbeg, Lib.hid (fun _ => ⟨hw5, hend0.out⟩)⟩
        case round =>
          obtain ⟨j, T, d, rfl, rfl, hTd, hj2, hTl, hup6, hbeg6, hend⟩ := hrel
          clear hw5 hup5 hbeg hend0 hcap hSl
          generalize wr = w6 at *
          have hcases : j = 0 ∨ j = 1 ∨ j = 2 := by omega
          rcases hcases with rfl | rfl | rfl
          · replace hend := Lib.hid (hend.out rfl)
            have hrd6 : Rd w6 w6.heap.size 1 (some ⟨g5, 0, none⟩) (T).length (bvs (T)) := hbeg6.rd
            go_wp2_with fail
            refine (replay_any (some ⟨g5, 0, none⟩) (T).length d (T) w6 hrd6 (by omega) (by omega)).mono ?_
            intro e6 w7 hp
            have hp2 := fun W => rreplay_any (T) W (by first | omega | simp)
            obtain ⟨r, hr0⟩ : ∃ r, r = replP (T) := ⟨_, rfl⟩
            rw [← hr0] at hp
            simp only [rrepl_eq, ← hr0] at hp2
            have HR := Lib.hid hr0
            clear hr0 hrd6
            cases r with
            | none =>
              obtain ⟨rfl, hu7⟩ := hp
              have hu8 : Up w7 (w7.alloc (.cells #[.int .i64 0, .slice none 0 0, .int .u64 0, .int .u64 0, .int .u64 0, .int .u64 0] 27)) := (Up.refl w7).alloc _
              have hgx : VX w7.heap.size v0 none 0 0 (w7.alloc (.cells #[.int .i64 0, .slice none 0 0, .int .u64 0, .int .u64 0, .int .u64 0, .int .u64 0] 27)) := ⟨heap_alloc_new _ _, Rd.empty, by omega, by omega⟩
              have hu68 := hu7.trans hu8
              have hcv : (convert 43 9 (.slice (some ⟨g5, 0, none⟩) (T).length d)).run Try.prog (w7.alloc (.cells #[.int .i64 0, .slice none 0 0, .int .u64 0, .int .u64 0, .int .u64 0, .int .u64 0] 27)) = .ok (.string (tx (T))) _ := run_str d (Rd.up (show Rd w6 w6.heap.size 1 (some ⟨g5, 0, none⟩) (T).length (bvs (T)) from hbeg6.rd) hu68)
              go_wp2_with fail
              generalize w7.heap.size = gx at *
              generalize (w7.alloc (.cells #[.int .i64 0, .slice none 0 0, .int .u64 0, .int .u64 0, .int .u64 0, .int .u64 0] 27)) = w8 at *
              clear hcv hu7 hu8
              refine (hp2 _).mono ?_
              clear hp2
              intro e9 w9 hp9
              obtain ⟨rfl, hu9⟩ := hp9
              have hu10 : Up w9 (w9.alloc (.cells #[.int .i64 0, .slice none 0 0, .int .u64 0, .int .u64 0, .int .u64 0, .int .u64 0] 27)) := (Up.refl w9).alloc _
              have hvy : VX w9.heap.size v0 none 0 0 (w9.alloc (.cells #[.int .i64 0, .slice none 0 0, .int .u64 0, .int .u64 0, .int .u64 0, .int .u64 0] 27)) := ⟨heap_alloc_new _ _, Rd.empty, by omega, by omega⟩
              have hvx := hgx.up (hu9.trans hu10)
              have hu610 := hu68.trans (hu9.trans hu10)
              generalize hgyE : w9.heap.size = gy at *
              obtain ⟨q0, q1, q2, q3, q4, q5⟩ := vw_c6 hvx.blk
              obtain ⟨r0, r1, r2, r3, r4, r5⟩ := vw_c6 hvy.blk
              have HSV := Lib.hid (sameV_self v0)
              go_wp2_with fail
              clear q0 q1 q2 q3 q4 q5 r0 r1 r2 r3 r4 r5
              (try rw [hgyE])
              generalize (w9.alloc (.cells #[.int .i64 0, .slice none 0 0, .int .u64 0, .int .u64 0, .int .u64 0, .int .u64 0] 27)) = w10 at *
              refine (sameView_any v0.1 none 0 0 v0.2.1 v0.2.2.1 v0.2.2.2.1 v0.2.2.2.2.1 v0.2.2.2.2.2 v0.1 none 0 0 v0.2.1 v0.2.2.1 v0.2.2.2.1 v0.2.2.2.2.1 v0.2.2.2.2.2 w10 hvx.rd hvy.rd (by omega) (by omega)).mono ?_
              rintro e11 w11 ⟨rfl, hu11⟩
              rw [HSV.out]
              have hu611 := hu610.trans hu11
              have hu6k := hu611
              clear hvx hvy hgx
              have hupk := hup6.trans hu6k
              have hbegk := hbeg6.up hu6k
              go_wp2_with fail
              go_roundw
              case rel => exact ⟨1, T, d, by go_num, rfl, hTd, by omega, (by first | exact hTl | simp), hupk, hbegk, Lib.hid (fun h => by omega)⟩
              case measure => simp [intOf]
            | some u =>
              have hu0 : u = (v, (T).length) := by
                have h1 := HR.out
                rw [hend.out.2] at h1
                by_cases hz : (T).length = 0
                · rw [if_pos hz] at h1; cases h1
                · rw [if_neg hz] at h1; injection h1
              subst hu0
              obtain ⟨R, rn, rc, rfl, hrd7, hrc, hrn, hu7⟩ := hp
              (try dsimp only at hrd7)
              unfold vcs
              (try dsimp only)
              have hu8 : Up w7 (w7.alloc (.cells #[.int .i64 v.1, .slice R rn rc, .int .u64 (v.2.2.1 : Int), .int .u64 (v.2.2.2.1 : Int), .int .u64 (v.2.2.2.2.1 : Int), .int .u64 (v.2.2.2.2.2 : Int)] 27)) := (Up.refl w7).alloc _
              have hgx : VX w7.heap.size v R rn rc (w7.alloc (.cells #[.int .i64 v.1, .slice R rn rc, .int .u64 (v.2.2.1 : Int), .int .u64 (v.2.2.2.1 : Int), .int .u64 (v.2.2.2.2.1 : Int), .int .u64 (v.2.2.2.2.2 : Int)] 27)) := ⟨heap_alloc_new _ _, hrd7.up hu8, hrc, hrn⟩
              have hu68 := hu7.trans hu8
              have hcv : (convert 43 9 (.slice (some ⟨g5, 0, none⟩) (T).length d)).run Try.prog (w7.alloc (.cells #[.int .i64 v.1, .slice R rn rc, .int .u64 (v.2.2.1 : Int), .int .u64 (v.2.2.2.1 : Int), .int .u64 (v.2.2.2.2.1 : Int), .int .u64 (v.2.2.2.2.2 : Int)] 27)) = .ok (.string (tx (T))) _ := run_str d (Rd.up (show Rd w6 w6.heap.size 1 (some ⟨g5, 0, none⟩) (T).length (bvs (T)) from hbeg6.rd) hu68)
              go_wp2_with fail
              generalize w7.heap.size = gx at *
              generalize (w7.alloc (.cells #[.int .i64 v.1, .slice R rn rc, .int .u64 (v.2.2.1 : Int), .int .u64 (v.2.2.2.1 : Int), .int .u64 (v.2.2.2.2.1 : Int), .int .u64 (v.2.2.2.2.2 : Int)] 27)) = w8 at *
              clear hcv hu7 hu8 hrd7
              refine (hp2 _).mono ?_
              clear hp2
              intro e9 w9 hp9
              obtain ⟨Q, qn, qc, rfl, hrd9, hqc, hqn, hu9⟩ := hp9
              (try dsimp only at hrd9)
              unfold vcs
              (try dsimp only)
              have hu10 : Up w9 (w9.alloc (.cells #[.int .i64 v.1, .slice Q qn qc, .int .u64 (v.2.2.1 : Int), .int .u64 (v.2.2.2.1 : Int), .int .u64 (v.2.2.2.2.1 : Int), .int .u64 (v.2.2.2.2.2 : Int)] 27)) := (Up.refl w9).alloc _
              have hvy : VX w9.heap.size v Q qn qc (w9.alloc (.cells #[.int .i64 v.1, .slice Q qn qc, .int .u64 (v.2.2.1 : Int), .int .u64 (v.2.2.2.1 : Int), .int .u64 (v.2.2.2.2.1 : Int), .int .u64 (v.2.2.2.2.2 : Int)] 27)) := ⟨heap_alloc_new _ _, hrd9.up hu10, hqc, hqn⟩
              have hvx := hgx.up (hu9.trans hu10)
              have hu610 := hu68.trans (hu9.trans hu10)
              generalize hgyE : w9.heap.size = gy at *
              obtain ⟨q0, q1, q2, q3, q4, q5⟩ := vw_c6 hvx.blk
              obtain ⟨r0, r1, r2, r3, r4, r5⟩ := vw_c6 hvy.blk
              have HSV := Lib.hid (sameV_self v)
              go_wp2_with fail
              clear q0 q1 q2 q3 q4 q5 r0 r1 r2 r3 r4 r5
              (try rw [hgyE])
              generalize (w9.alloc (.cells #[.int .i64 v.1, .slice Q qn qc, .int .u64 (v.2.2.1 : Int), .int .u64 (v.2.2.2.1 : Int), .int .u64 (v.2.2.2.2.1 : Int), .int .u64 (v.2.2.2.2.2 : Int)] 27)) = w10 at *
              refine (sameView_any v.1 R rn rc v.2.1 v.2.2.1 v.2.2.2.1 v.2.2.2.2.1 v.2.2.2.2.2 v.1 Q qn qc v.2.1 v.2.2.1 v.2.2.2.1 v.2.2.2.2.1 v.2.2.2.2.2 w10 hvx.rd hvy.rd (by omega) (by omega)).mono ?_
              rintro e11 w11 ⟨rfl, hu11⟩
              rw [HSV.out]
              have hu611 := hu610.trans hu11
              have hvx11 := hvx.up hu11
              have hw11 := hend.out.1.up hu611
              obtain ⟨q0, q1, q2, q3, q4, q5⟩ := vw_c6 hvx11.blk
              obtain ⟨r0, r1, r2, r3, r4, r5⟩ := vw_c6 hw11.blk
              have hn7 := hw11.le
              clear hvx hvy hgx
              go_wp2_with fail
              clear q0 q1 q2 q3 q4 q5 r0 r1 r2 r3 r4 r5
              refine (sameView_any v.1 R rn rc v.2.1 v.2.2.1 v.2.2.2.1 v.2.2.2.2.1 v.2.2.2.2.2 v.1 A7 n7 c7 v.2.1 v.2.2.1 v.2.2.2.1 v.2.2.2.2.1 v.2.2.2.2.2 w11 hvx11.rd hw11.rd (by omega) (by omega)).mono ?_
              rintro e12 w12 ⟨rfl, hu12⟩
              rw [HSV.out]
              have hu6k := hu611.trans hu12
              have hupk := hup6.trans hu6k
              have hbegk := hbeg6.up hu6k
              go_wp2_with fail
              go_roundw
              case rel => exact ⟨1, T, d, by go_num, rfl, hTd, by omega, (by first | exact hTl | simp), hupk, hbegk, Lib.hid (fun h => by omega)⟩
              case measure => simp [intOf]
          · clear hend
            by_cases hT0 : T.length = 0
            · have hTe : T = [] := List.eq_nil_of_length_eq_zero hT0
              subst hTe
              clear hT0
              have hrd6 : Rd w6 w6.heap.size 1 (some ⟨g5, 0, none⟩) 0 (bvs (([] : List UInt8))) := hbeg6.rd
              go_wp2_with fail
              refine (replay_any (some ⟨g5, 0, none⟩) 0 d (([] : List UInt8)) w6 hrd6 (by omega) (by omega)).mono ?_
              intro e6 w7 hp
              have hp2 := fun W => rreplay_any (([] : List UInt8)) W (by first | omega | simp)
              obtain ⟨r, hr0⟩ : ∃ r, r = replP (([] : List UInt8)) := ⟨_, rfl⟩
              rw [← hr0] at hp
              simp only [rrepl_eq, ← hr0] at hp2
              have HR := Lib.hid hr0
              clear hr0 hrd6
              cases r with
              | none =>
                obtain ⟨rfl, hu7⟩ := hp
                have hu8 : Up w7 (w7.alloc (.cells #[.int .i64 0, .slice none 0 0, .int .u64 0, .int .u64 0, .int .u64 0, .int .u64 0] 27)) := (Up.refl w7).alloc _
                have hgx : VX w7.heap.size v0 none 0 0 (w7.alloc (.cells #[.int .i64 0, .slice none 0 0, .int .u64 0, .int .u64 0, .int .u64 0, .int .u64 0] 27)) := ⟨heap_alloc_new _ _, Rd.empty, by omega, by omega⟩
                have hu68 := hu7.trans hu8
                have hcv : (convert 43 9 (.slice (some ⟨g5, 0, none⟩) 0 d)).run Try.prog (w7.alloc (.cells #[.int .i64 0, .slice none 0 0, .int .u64 0, .int .u64 0, .int .u64 0, .int .u64 0] 27)) = .ok (.string (tx (([] : List UInt8)))) _ := run_str d (Rd.up (show Rd w6 w6.heap.size 1 (some ⟨g5, 0, none⟩) 0 (bvs (([] : List UInt8))) from hbeg6.rd) hu68)
                go_wp2_with fail
                generalize w7.heap.size = gx at *
                generalize (w7.alloc (.cells #[.int .i64 0, .slice none 0 0, .int .u64 0, .int .u64 0, .int .u64 0, .int .u64 0] 27)) = w8 at *
                clear hcv hu7 hu8
                refine (hp2 _).mono ?_
                clear hp2
                intro e9 w9 hp9
                obtain ⟨rfl, hu9⟩ := hp9
                have hu10 : Up w9 (w9.alloc (.cells #[.int .i64 0, .slice none 0 0, .int .u64 0, .int .u64 0, .int .u64 0, .int .u64 0] 27)) := (Up.refl w9).alloc _
                have hvy : VX w9.heap.size v0 none 0 0 (w9.alloc (.cells #[.int .i64 0, .slice none 0 0, .int .u64 0, .int .u64 0, .int .u64 0, .int .u64 0] 27)) := ⟨heap_alloc_new _ _, Rd.empty, by omega, by omega⟩
                have hvx := hgx.up (hu9.trans hu10)
                have hu610 := hu68.trans (hu9.trans hu10)
                generalize hgyE : w9.heap.size = gy at *
                obtain ⟨q0, q1, q2, q3, q4, q5⟩ := vw_c6 hvx.blk
                obtain ⟨r0, r1, r2, r3, r4, r5⟩ := vw_c6 hvy.blk
                have HSV := Lib.hid (sameV_self v0)
                go_wp2_with fail
                clear q0 q1 q2 q3 q4 q5 r0 r1 r2 r3 r4 r5
                (try rw [hgyE])
                generalize (w9.alloc (.cells #[.int .i64 0, .slice none 0 0, .int .u64 0, .int .u64 0, .int .u64 0, .int .u64 0] 27)) = w10 at *
                refine (sameView_any v0.1 none 0 0 v0.2.1 v0.2.2.1 v0.2.2.2.1 v0.2.2.2.2.1 v0.2.2.2.2.2 v0.1 none 0 0 v0.2.1 v0.2.2.1 v0.2.2.2.1 v0.2.2.2.2.1 v0.2.2.2.2.2 w10 hvx.rd hvy.rd (by omega) (by omega)).mono ?_
                rintro e11 w11 ⟨rfl, hu11⟩
                rw [HSV.out]
                have hu611 := hu610.trans hu11
                have hu6k := hu611
                clear hvx hvy hgx
                have hupk := hup6.trans hu6k
                have hbegk := hbeg6.up hu6k
                go_wp2_with fail
                go_roundw
                case rel => exact ⟨2, ([] : List UInt8), d, by go_num, rfl, hTd, by omega, (by first | exact hTl | simp), hupk, hbegk, Lib.hid (fun h => by omega)⟩
                case measure => simp [intOf]
              | some u =>
                obtain ⟨u, un⟩ := u
                obtain ⟨R, rn, rc, rfl, hrd7, hrc, hrn, hu7⟩ := hp
                (try dsimp only at hrd7)
                unfold vcs
                (try dsimp only)
                have hu8 : Up w7 (w7.alloc (.cells #[.int .i64 u.1, .slice R rn rc, .int .u64 (u.2.2.1 : Int), .int .u64 (u.2.2.2.1 : Int), .int .u64 (u.2.2.2.2.1 : Int), .int .u64 (u.2.2.2.2.2 : Int)] 27)) := (Up.refl w7).alloc _
                have hgx : VX w7.heap.size u R rn rc (w7.alloc (.cells #[.int .i64 u.1, .slice R rn rc, .int .u64 (u.2.2.1 : Int), .int .u64 (u.2.2.2.1 : Int), .int .u64 (u.2.2.2.2.1 : Int), .int .u64 (u.2.2.2.2.2 : Int)] 27)) := ⟨heap_alloc_new _ _, hrd7.up hu8, hrc, hrn⟩
                have hu68 := hu7.trans hu8
                have hcv : (convert 43 9 (.slice (some ⟨g5, 0, none⟩) 0 d)).run Try.prog (w7.alloc (.cells #[.int .i64 u.1, .slice R rn rc, .int .u64 (u.2.2.1 : Int), .int .u64 (u.2.2.2.1 : Int), .int .u64 (u.2.2.2.2.1 : Int), .int .u64 (u.2.2.2.2.2 : Int)] 27)) = .ok (.string (tx (([] : List UInt8)))) _ := run_str d (Rd.up (show Rd w6 w6.heap.size 1 (some ⟨g5, 0, none⟩) 0 (bvs (([] : List UInt8))) from hbeg6.rd) hu68)
                go_wp2_with fail
                generalize w7.heap.size = gx at *
                generalize (w7.alloc (.cells #[.int .i64 u.1, .slice R rn rc, .int .u64 (u.2.2.1 : Int), .int .u64 (u.2.2.2.1 : Int), .int .u64 (u.2.2.2.2.1 : Int), .int .u64 (u.2.2.2.2.2 : Int)] 27)) = w8 at *
                clear hcv hu7 hu8 hrd7
                refine (hp2 _).mono ?_
                clear hp2
                intro e9 w9 hp9
                obtain ⟨Q, qn, qc, rfl, hrd9, hqc, hqn, hu9⟩ := hp9
                (try dsimp only at hrd9)
                unfold vcs
                (try dsimp only)
                have hu10 : Up w9 (w9.alloc (.cells #[.int .i64 u.1, .slice Q qn qc, .int .u64 (u.2.2.1 : Int), .int .u64 (u.2.2.2.1 : Int), .int .u64 (u.2.2.2.2.1 : Int), .int .u64 (u.2.2.2.2.2 : Int)] 27)) := (Up.refl w9).alloc _
                have hvy : VX w9.heap.size u Q qn qc (w9.alloc (.cells #[.int .i64 u.1, .slice Q qn qc, .int .u64 (u.2.2.1 : Int), .int .u64 (u.2.2.2.1 : Int), .int .u64 (u.2.2.2.2.1 : Int), .int .u64 (u.2.2.2.2.2 : Int)] 27)) := ⟨heap_alloc_new _ _, hrd9.up hu10, hqc, hqn⟩
                have hvx := hgx.up (hu9.trans hu10)
                have hu610 := hu68.trans (hu9.trans hu10)
                generalize hgyE : w9.heap.size = gy at *
                obtain ⟨q0, q1, q2, q3, q4, q5⟩ := vw_c6 hvx.blk
                obtain ⟨r0, r1, r2, r3, r4, r5⟩ := vw_c6 hvy.blk
                have HSV := Lib.hid (sameV_self u)
                go_wp2_with fail
                clear q0 q1 q2 q3 q4 q5 r0 r1 r2 r3 r4 r5
                (try rw [hgyE])
                generalize (w9.alloc (.cells #[.int .i64 u.1, .slice Q qn qc, .int .u64 (u.2.2.1 : Int), .int .u64 (u.2.2.2.1 : Int), .int .u64 (u.2.2.2.2.1 : Int), .int .u64 (u.2.2.2.2.2 : Int)] 27)) = w10 at *
                refine (sameView_any u.1 R rn rc u.2.1 u.2.2.1 u.2.2.2.1 u.2.2.2.2.1 u.2.2.2.2.2 u.1 Q qn qc u.2.1 u.2.2.1 u.2.2.2.1 u.2.2.2.2.1 u.2.2.2.2.2 w10 hvx.rd hvy.rd (by omega) (by omega)).mono ?_
                rintro e11 w11 ⟨rfl, hu11⟩
                rw [HSV.out]
                have hu611 := hu610.trans hu11
                have hu6k := hu611
                clear hvx hvy hgx
                have hupk := hup6.trans hu6k
                have hbegk := hbeg6.up hu6k
                go_wp2_with fail
                go_roundw
                case rel => exact ⟨2, ([] : List UInt8), d, by go_num, rfl, hTd, by omega, (by first | exact hTl | simp), hupk, hbegk, Lib.hid (fun h => by omega)⟩
                case measure => simp [intOf]
            · obtain ⟨N, hN⟩ : ∃ N, N = T.length := ⟨_, rfl⟩
              obtain ⟨C, hC, hC2⟩ := i64_and_le at0 16777215 (by omega)
              replace hC : bits .and .i64 at0 16777215 = (C : Int) := hC
              obtain ⟨D, hD, hD2⟩ := i64_and_le cut 65535 (by omega)
              replace hD : bits .and .i64 cut 65535 = (D : Int) := hD
              rw [← hN] at hT0 hTd hTl ⊢
              obtain ⟨P, hP, hPN⟩ : ∃ P : Nat, (D : Int) % ((N : Int) + 1) = (P : Int) ∧ P ≤ N := ⟨D % (N + 1), (by rw [Int.natCast_emod]; rfl), by have := Nat.mod_lt D (show 0 < N + 1 by omega); omega⟩
              have hP0 : ¬ ((N : Int) + 1 = 0) := by omega
              obtain ⟨I, hI, hIN⟩ : ∃ I : Nat, (C : Int) % (N : Int) = (I : Int) ∧ I < N := ⟨C % N, by rw [Int.natCast_emod], Nat.mod_lt C (by omega)⟩
              have hN1 : ¬ ((N : Int) = 0) := by omega
              have hNp : (0 : Int) < (N : Int) := by omega
              have hIN2 : (I : Int) < (N : Int) := by omega
              have hIT : I < T.length := by rw [← hN]; exact hIN
              have HN := Lib.hid hN
              clear hN
              obtain ⟨y, hy⟩ := xor_byte ((T.getD I 0).toNat : Int) by0
              have hc8 : w6.cell? ⟨g5, I, none⟩ = some (.int .u8 ((T.getD I 0).toNat : Int)) := hbeg6.cell hIT
              have hf8 := hbeg6.free hIT
              have hbeg7 := hbeg6.set hIT y
              have hlen2 : (T.set I y).length = N := by rw [List.length_set, ← HN.out]
              have hup7 : Up w (w6.setCell ⟨g5, I, none⟩ (bv y)) := keepsUp (wq := w6) hup6 hg5 (setc_keeps w6 w6 g5 I _ (Rg.Keeps.refl _ _))
              have hbv : bv y = .int .u8 (y.toNat : Int) := rfl
              rw [hbv] at hbeg7 hup7
              generalize T.getD I 0 = t0 at *
              generalize T.set I y = T2 at *
              go_wp2_with fail
              clear hc8 hf8 hbeg6 hup6
              generalize w6.setCell ⟨g5, I, none⟩ (.int .u8 (y.toNat : Int)) = w6 at *
              have hL3 : (T2.take (N - P)).length = N - P := by rw [List.length_take]; omega
              have hbeg6 := Beg.take hbeg7 (N - P)
              have hup6 := hup7
              generalize T2.take (N - P) = T3 at *
              rw [← hL3]
              have hTd2 : T3.length ≤ d := by omega
              have hTl2 : T3.length ≤ 36000 := by omega
              clear hTd hTl hbeg7 hup7 hy hlen2 hC hD hP hI hIT hIN2 hNp hN1 hP0 hL3
              have hTd := hTd2
              have hTl := hTl2
              clear hTd2 hTl2
              have hrd6 : Rd w6 w6.heap.size 1 (some ⟨g5, 0, none⟩) (T3).length (bvs (T3)) := hbeg6.rd
              refine (replay_any (some ⟨g5, 0, none⟩) (T3).length d (T3) w6 hrd6 (by omega) (by omega)).mono ?_
              intro e6 w7 hp
              have hp2 := fun W => rreplay_any (T3) W (by first | omega | simp)
              obtain ⟨r, hr0⟩ : ∃ r, r = replP (T3) := ⟨_, rfl⟩
              rw [← hr0] at hp
              simp only [rrepl_eq, ← hr0] at hp2
              have HR := Lib.hid hr0
              clear hr0 hrd6
              cases r with
              | none =>
                obtain ⟨rfl, hu7⟩ := hp
                have hu8 : Up w7 (w7.alloc (.cells #[.int .i64 0, .slice none 0 0, .int .u64 0, .int .u64 0, .int .u64 0, .int .u64 0] 27)) := (Up.refl w7).alloc _
                have hgx : VX w7.heap.size v0 none 0 0 (w7.alloc (.cells #[.int .i64 0, .slice none 0 0, .int .u64 0, .int .u64 0, .int .u64 0, .int .u64 0] 27)) := ⟨heap_alloc_new _ _, Rd.empty, by omega, by omega⟩
                have hu68 := hu7.trans hu8
                have hcv : (convert 43 9 (.slice (some ⟨g5, 0, none⟩) (T3).length d)).run Try.prog (w7.alloc (.cells #[.int .i64 0, .slice none 0 0, .int .u64 0, .int .u64 0, .int .u64 0, .int .u64 0] 27)) = .ok (.string (tx (T3))) _ := run_str d (Rd.up (show Rd w6 w6.heap.size 1 (some ⟨g5, 0, none⟩) (T3).length (bvs (T3)) from hbeg6.rd) hu68)
                go_wp2_with fail
                generalize w7.heap.size = gx at *
                generalize (w7.alloc (.cells #[.int .i64 0, .slice none 0 0, .int .u64 0, .int .u64 0, .int .u64 0, .int .u64 0] 27)) = w8 at *
                clear hcv hu7 hu8
                refine (hp2 _).mono ?_
                clear hp2
                intro e9 w9 hp9
                obtain ⟨rfl, hu9⟩ := hp9
                have hu10 : Up w9 (w9.alloc (.cells #[.int .i64 0, .slice none 0 0, .int .u64 0, .int .u64 0, .int .u64 0, .int .u64 0] 27)) := (Up.refl w9).alloc _
                have hvy : VX w9.heap.size v0 none 0 0 (w9.alloc (.cells #[.int .i64 0, .slice none 0 0, .int .u64 0, .int .u64 0, .int .u64 0, .int .u64 0] 27)) := ⟨heap_alloc_new _ _, Rd.empty, by omega, by omega⟩
                have hvx := hgx.up (hu9.trans hu10)
                have hu610 := hu68.trans (hu9.trans hu10)
                generalize hgyE : w9.heap.size = gy at *
                obtain ⟨q0, q1, q2, q3, q4, q5⟩ := vw_c6 hvx.blk
                obtain ⟨r0, r1, r2, r3, r4, r5⟩ := vw_c6 hvy.blk
                have HSV := Lib.hid (sameV_self v0)
                go_wp2_with fail
                clear q0 q1 q2 q3 q4 q5 r0 r1 r2 r3 r4 r5
                (try rw [hgyE])
                generalize (w9.alloc (.cells #[.int .i64 0, .slice none 0 0, .int .u64 0, .int .u64 0, .int .u64 0, .int .u64 0] 27)) = w10 at *
                refine (sameView_any v0.1 none 0 0 v0.2.1 v0.2.2.1 v0.2.2.2.1 v0.2.2.2.2.1 v0.2.2.2.2.2 v0.1 none 0 0 v0.2.1 v0.2.2.1 v0.2.2.2.1 v0.2.2.2.2.1 v0.2.2.2.2.2 w10 hvx.rd hvy.rd (by omega) (by omega)).mono ?_
                rintro e11 w11 ⟨rfl, hu11⟩
                rw [HSV.out]
                have hu611 := hu610.trans hu11
                have hu6k := hu611
                clear hvx hvy hgx
                have hupk := hup6.trans hu6k
                have hbegk := hbeg6.up hu6k
                go_wp2_with fail
                go_roundw
                case rel => exact ⟨2, T3, d, by go_num, rfl, hTd, by omega, (by first | exact hTl | simp), hupk, hbegk, Lib.hid (fun h => by omega)⟩
                case measure => simp [intOf]
              | some u =>
                obtain ⟨u, un⟩ := u
                obtain ⟨R, rn, rc, rfl, hrd7, hrc, hrn, hu7⟩ := hp
                (try dsimp only at hrd7)
                unfold vcs
                (try dsimp only)
                have hu8 : Up w7 (w7.alloc (.cells #[.int .i64 u.1, .slice R rn rc, .int .u64 (u.2.2.1 : Int), .int .u64 (u.2.2.2.1 : Int), .int .u64 (u.2.2.2.2.1 : Int), .int .u64 (u.2.2.2.2.2 : Int)] 27)) := (Up.refl w7).alloc _
                have hgx : VX w7.heap.size u R rn rc (w7.alloc (.cells #[.int .i64 u.1, .slice R rn rc, .int .u64 (u.2.2.1 : Int), .int .u64 (u.2.2.2.1 : Int), .int .u64 (u.2.2.2.2.1 : Int), .int .u64 (u.2.2.2.2.2 : Int)] 27)) := ⟨heap_alloc_new _ _, hrd7.up hu8, hrc, hrn⟩
                have hu68 := hu7.trans hu8
                have hcv : (convert 43 9 (.slice (some ⟨g5, 0, none⟩) (T3).length d)).run Try.prog (w7.alloc (.cells #[.int .i64 u.1, .slice R rn rc, .int .u64 (u.2.2.1 : Int), .int .u64 (u.2.2.2.1 : Int), .int .u64 (u.2.2.2.2.1 : Int), .int .u64 (u.2.2.2.2.2 : Int)] 27)) = .ok (.string (tx (T3))) _ := run_str d (Rd.up (show Rd w6 w6.heap.size 1 (some ⟨g5, 0, none⟩) (T3).length (bvs (T3)) from hbeg6.rd) hu68)
                go_wp2_with fail
                generalize w7.heap.size = gx at *
                generalize (w7.alloc (.cells #[.int .i64 u.1, .slice R rn rc, .int .u64 (u.2.2.1 : Int), .int .u64 (u.2.2.2.1 : Int), .int .u64 (u.2.2.2.2.1 : Int), .int .u64 (u.2.2.2.2.2 : Int)] 27)) = w8 at *
                clear hcv hu7 hu8 hrd7
                refine (hp2 _).mono ?_
                clear hp2
                intro e9 w9 hp9
                obtain ⟨Q, qn, qc, rfl, hrd9, hqc, hqn, hu9⟩ := hp9
                (try dsimp only at hrd9)
                unfold vcs
                (try dsimp only)
                have hu10 : Up w9 (w9.alloc (.cells #[.int .i64 u.1, .slice Q qn qc, .int .u64 (u.2.2.1 : Int), .int .u64 (u.2.2.2.1 : Int), .int .u64 (u.2.2.2.2.1 : Int), .int .u64 (u.2.2.2.2.2 : Int)] 27)) := (Up.refl w9).alloc _
                have hvy : VX w9.heap.size u Q qn qc (w9.alloc (.cells #[.int .i64 u.1, .slice Q qn qc, .int .u64 (u.2.2.1 : Int), .int .u64 (u.2.2.2.1 : Int), .int .u64 (u.2.2.2.2.1 : Int), .int .u64 (u.2.2.2.2.2 : Int)] 27)) := ⟨heap_alloc_new _ _, hrd9.up hu10, hqc, hqn⟩
                have hvx := hgx.up (hu9.trans hu10)
                have hu610 := hu68.trans (hu9.trans hu10)
                generalize hgyE : w9.heap.size = gy at *
                obtain ⟨q0, q1, q2, q3, q4, q5⟩ := vw_c6 hvx.blk
                obtain ⟨r0, r1, r2, r3, r4, r5⟩ := vw_c6 hvy.blk
                have HSV := Lib.hid (sameV_self u)
                go_wp2_with fail
                clear q0 q1 q2 q3 q4 q5 r0 r1 r2 r3 r4 r5
                (try rw [hgyE])
                generalize (w9.alloc (.cells #[.int .i64 u.1, .slice Q qn qc, .int .u64 (u.2.2.1 : Int), .int .u64 (u.2.2.2.1 : Int), .int .u64 (u.2.2.2.2.1 : Int), .int .u64 (u.2.2.2.2.2 : Int)] 27)) = w10 at *
                refine (sameView_any u.1 R rn rc u.2.1 u.2.2.1 u.2.2.2.1 u.2.2.2.2.1 u.2.2.2.2.2 u.1 Q qn qc u.2.1 u.2.2.1 u.2.2.2.1 u.2.2.2.2.1 u.2.2.2.2.2 w10 hvx.rd hvy.rd (by omega) (by omega)).mono ?_
                rintro e11 w11 ⟨rfl, hu11⟩
                rw [HSV.out]
                have hu611 := hu610.trans hu11
                have hu6k := hu611
                clear hvx hvy hgx
                have hupk := hup6.trans hu6k
                have hbegk := hbeg6.up hu6k
                go_wp2_with fail
                go_roundw
                case rel => exact ⟨2, T3, d, by go_num, rfl, hTd, by omega, (by first | exact hTl | simp), hupk, hbegk, Lib.hid (fun h => by omega)⟩
                case measure => simp [intOf]
          · go_wp2_with (go_at_call 11; with_reducible refine (awake15_any _).mono ?_; rintro e w7 ⟨rfl, hu7⟩)
            go_ret
            exact ⟨rfl, hup6.trans hu7⟩
    · have i1 : ¬ (k : Int) < (n : Int) := by omega
      obtain ⟨c5, w5, hconv, hcap, hbeg, hu5⟩ := conv_beg wr S
      have hg5 : w.heap.size ≤ wr.heap.size := hup.size
      generalize hg7 : wr.heap.size = g5 at hconv hbeg hg5
      have hw5 := hw.up hu5
      have hup5 := hup.trans hu5
      have hend0 := Lib.hid hlog.out.end_
      have hSl : S.length ≤ 36000 := by omega
      clear hv hw hup hu5 hlog hg7 hsl
      go_wp2_with fail
      clear hconv
      go_loopw [17, 18] (fun sl i wr => ∃ (j : Nat) (T : List UInt8) (d : Nat), i = .int .i64 (j : Int) ∧ sl = .slice (some ⟨g5, 0, none⟩) T.length d ∧ T.length ≤ d ∧ j ≤ 2 ∧ T.length ≤ 36000 ∧ Up w wr ∧ Beg g5 T wr ∧ Hid (j = 0 → VW gw v A7 n7 c7 wr ∧ replP T = if T.length = 0 then none else some (v, T.length))) (fun _ i _ => 2 - (intOf i).toNat)
      case atStart => exact ⟨0, S, c5, rfl, rfl, hcap, by omega, hSl, hup5, hbeg, Lib.hid (fun _ => ⟨hw5, hend0.out⟩)⟩
      case round =>
        obtain ⟨j, T, d, rfl, rfl, hTd, hj2, hTl, hup6, hbeg6, hend⟩ := hrel
        clear hw5 hup5 hbeg hend0 hcap hSl
        generalize wr = w6 at *
        have hcases : j = 0 ∨ j = 1 ∨ j = 2 := by omega
        rcases hcases with rfl | rfl | rfl
        · replace hend := Lib.hid (hend.out rfl)
          have hrd6 : Rd w6 w6.heap.size 1 (some ⟨g5, 0, none⟩) (T).length (bvs (T)) := hbeg6.rd
          go_wp2_with fail
          refine (replay_any (some ⟨g5, 0, none⟩) (T).length d (T) w6 hrd6 (by omega) (by omega)).mono ?_
          intro e6 w7 hp
          have hp2 := fun W => rreplay_any (T) W (by first | omega | simp)
          obtain ⟨r, hr0⟩ : ∃ r, r = replP (T) := ⟨_, rfl⟩
          rw [← hr0] at hp
          simp only [rrepl_eq, ← hr0] at hp2
          have HR := Lib.hid hr0
          clear hr0 hrd6
          cases r with
          | none =>
            obtain ⟨rfl, hu7⟩ := hp
            have hu8 : Up w7 (w7.alloc (.cells #[.int .i64 0, .slice none 0 0, .int .u64 0, .int .u64 0, .int .u64 0, .int .u64 0] 27)) := (Up.refl w7).alloc _
            have hgx : VX w7.heap.size v0 none 0 0 (w7.alloc (.cells #[.int .i64 0, .slice none 0 0, .int .u64 0, .int .u64 0, .int .u64 0, .int .u64 0] 27)) := ⟨heap_alloc_new _ _, Rd.empty, by omega, by omega⟩
            have hu68 := hu7.trans hu8
            have hcv : (convert 43 9 (.slice (some ⟨g5, 0, none⟩) (T).length d)).run Try.prog (w7.alloc (.cells #[.int .i64 0, .slice none 0 0, .int .u64 0, .int .u64 0, .int .u64 0, .int .u64 0] 27)) = .ok (.string (tx (T))) _ := run_str d (Rd.up (show Rd w6 w6.heap.size 1 (some ⟨g5, 0, none⟩) (T).length (bvs (T)) from hbeg6.rd) hu68)
            go_wp2_with fail
            generalize w7.heap.size = gx at *
            generalize (w7.alloc (.cells #[.int .i64 0, .slice none 0 0, .int .u64 0, .int .u64 0, .int .u64 0, .int .u64 0] 27)) = w8 at *
            clear hcv hu7 hu8
            refine (hp2 _).mono ?_
            clear hp2
            intro e9 w9 hp9
            obtain ⟨rfl, hu9⟩ := hp9
            have hu10 : Up w9 (w9.alloc (.cells #[.int .i64 0, .slice none 0 0, .int .u64 0, .int .u64 0, .int .u64 0, .int .u64 0] 27)) := (Up.refl w9).alloc _
            have hvy : VX w9.heap.size v0 none 0 0 (w9.alloc (.cells #[.int .i64 0, .slice none 0 0, .int .u64 0, .int .u64 0, .int .u64 0, .int .u64 0] 27)) := ⟨heap_alloc_new _ _, Rd.empty, by omega, by omega⟩
            have hvx := hgx.up (hu9.trans hu10)
            have hu610 := hu68.trans (hu9.trans hu10)
            generalize hgyE : w9.heap.size = gy at *
            obtain ⟨q0, q1, q2, q3, q4, q5⟩ := vw_c6 hvx.blk
            obtain ⟨r0, r1, r2, r3, r4, r5⟩ := vw_c6 hvy.blk
            have HSV := Lib.hid (sameV_self v0)
            go_wp2_with fail
            clear q0 q1 q2 q3 q4 q5 r0 r1 r2 r3 r4 r5
            (try rw [hgyE])
            generalize (w9.alloc (.cells #[.int .i64 0, .slice none 0 0, .int .u64 0, .int .u64 0, .int .u64 0, .int .u64 0] 27)) = w10 at *
            refine (sameView_any v0.1 none 0 0 v0.2.1 v0.2.2.1 v0.2.2.2.1 v0.2.2.2.2.1 v0.2.2.2.2.2 v0.1 none 0 0 v0.2.1 v0.2.2.1 v0.2.2.2.1 v0.2.2.2.2.1 v0.2.2.2.2.2 w10 hvx.rd hvy.rd (by omega) (by omega)).mono ?_
            rintro e11 w11 ⟨rfl, hu11⟩
            rw [HSV.out]
            have hu611 := hu610.trans hu11
            have hu6k := hu611
            clear hvx hvy hgx
            have hupk := hup6.trans hu6k
            have hbegk := hbeg6.up hu6k
            go_wp2_with fail
            go_roundw
            case rel => exact ⟨1, T, d, by go_num, rfl, hTd, by omega, (by first | exact hTl | simp), hupk, hbegk, Lib.hid (fun h => by omega)⟩
            case measure => simp [intOf]
          | some u =>
            have hu0 : u = (v, (T).length) := by
              have h1 := HR.out
              rw [hend.out.2] at h1
              by_cases hz : (T).length = 0
              · rw [if_pos hz] at h1; cases h1
              · rw [if_neg hz] at h1; injection h1
            subst hu0
            obtain ⟨R, rn, rc, rfl, hrd7, hrc, hrn, hu7⟩ := hp
            (try dsimp only at hrd7)
            unfold vcs
            (try dsimp only)
            have hu8 : Up w7 (w7.alloc (.cells #[.int .i64 v.1, .slice R rn rc, .int .u64 (v.2.2.1 : Int), .int .u64 (v.2.2.2.1 : Int), .int .u64 (v.2.2.2.2.1 : Int), .int .u64 (v.2.2.2.2.2 : Int)] 27)) := (Up.refl w7).alloc _
            have hgx : VX w7.heap.size v R rn rc (w7.alloc (.cells #[.int .i64 v.1, .slice R rn rc, .int .u64 (v.2.2.1 : Int), .int .u64 (v.2.2.2.1 : Int), .int .u64 (v.2.2.2.2.1 : Int), .int .u64 (v.2.2.2.2.2 : Int)] 27)) := ⟨heap_alloc_new _ _, hrd7.up hu8, hrc, hrn⟩
            have hu68 := hu7.trans hu8
            have hcv : (convert 43 9 (.slice (some ⟨g5, 0, none⟩) (T).length d)).run Try.prog (w7.alloc (.cells #[.int .i64 v.1, .slice R rn rc, .int .u64 (v.2.2.1 : Int), .int .u64 (v.2.2.2.1 : Int), .int .u64 (v.2.2.2.2.1 : Int), .int .u64 (v.2.2.2.2.2 : Int)] 27)) = .ok (.string (tx (T))) _ := run_str d (Rd.up (show Rd w6 w6.heap.size 1 (some ⟨g5, 0, none⟩) (T).length (bvs (T)) from hbeg6.rd) hu68)
            go_wp2_with fail
            generalize w7.heap.size = gx at *
            generalize (w7.alloc (.cells #[.int .i64 v.1, .slice R rn rc, .int .u64 (v.2.2.1 : Int), .int .u64 (v.2.2.2.1 : Int), .int .u64 (v.2.2.2.2.1 : Int), .int .u64 (v.2.2.2.2.2 : Int)] 27)) = w8 at *
            clear hcv hu7 hu8 hrd7
            refine (hp2 _).mono ?_
            clear hp2
            intro e9 w9 hp9
            obtain ⟨Q, qn, qc, rfl, hrd9, hqc, hqn, hu9⟩ := hp9
            (try dsimp only at hrd9)
            unfold vcs
            (try dsimp only)
            have hu10 : Up w9 (w9.alloc (.cells #[.int .i64 v.1, .slice Q qn qc, .int .u64 (v.2.2.1 : Int), .int .u64 (v.2.2.2.1 : Int), .int .u64 (v.2.2.2.2.1 : Int), .int .u64 (v.2.2.2.2.2 : Int)] 27)) := (Up.refl w9).alloc _
            have hvy : VX w9.heap.size v Q qn qc (w9.alloc (.cells #[.int .i64 v.1, .slice Q qn qc, .int .u64 (v.2.2.1 : Int), .int .u64 (v.2.2.2.1 : Int), .int .u64 (v.2.2.2.2.1 : Int), .int .u64 (v.2.2.2.2.2 : Int)] 27)) := ⟨heap_alloc_new _ _, hrd9.up hu10, hqc, hqn⟩
            have hvx := hgx.up (hu9.trans hu10)
            have hu610 := hu68.trans (hu9.trans hu10)
            generalize hgyE : w9.heap.size = gy at *
            obtain ⟨q0, q1, q2, q3, q4, q5⟩ := vw_c6 hvx.blk
            obtain ⟨r0, r1, r2, r3, r4, r5⟩ := vw_c6 hvy.blk
            have HSV := Lib.hid (sameV_self v)
            go_wp2_with fail
            clear q0 q1 q2 q3 q4 q5 r0 r1 r2 r3 r4 r5
            (try rw [hgyE])
            generalize (w9.alloc (.cells #[.int .i64 v.1, .slice Q qn qc, .int .u64 (v.2.2.1 : Int), .int .u64 (v.2.2.2.1 : Int), .int .u64 (v.2.2.2.2.1 : Int), .int .u64 (v.2.2.2.2.2 : Int)] 27)) = w10 at *
            refine (sameView_any v.1 R rn rc v.2.1 v.2.2.1 v.2.2.2.1 v.2.2.2.2.1 v.2.2.2.2.2 v.1 Q qn qc v.2.1 v.2.2.1 v.2.2.2.1 v.2.2.2.2.1 v.2.2.2.2.2 w10 hvx.rd hvy.rd (by omega) (by omega)).mono ?_
            rintro e11 w11 ⟨rfl, hu11⟩
            rw [HSV.out]
            have hu611 := hu610.trans hu11
            have hvx11 := hvx.up hu11
            have hw11 := hend.out.1.up hu611
            obtain ⟨q0, q1, q2, q3, q4, q5⟩ := vw_c6 hvx11.blk
            obtain ⟨r0, r1, r2, r3, r4, r5⟩ := vw_c6 hw11.blk
            have hn7 := hw11.le
            clear hvx hvy hgx
            go_wp2_with fail
            clear q0 q1 q2 q3 q4 q5 r0 r1 r2 r3 r4 r5
            refine (sameView_any v.1 R rn rc v.2.1 v.2.2.1 v.2.2.2.1 v.2.2.2.2.1 v.2.2.2.2.2 v.1 A7 n7 c7 v.2.1 v.2.2.1 v.2.2.2.1 v.2.2.2.2.1 v.2.2.2.2.2 w11 hvx11.rd hw11.rd (by omega) (by omega)).mono ?_
            rintro e12 w12 ⟨rfl, hu12⟩
            rw [HSV.out]
            have hu6k := hu611.trans hu12
            have hupk := hup6.trans hu6k
            have hbegk := hbeg6.up hu6k
            go_wp2_with fail
            go_roundw
            case rel => exact ⟨1, T, d, by go_num, rfl, hTd, by omega, (by first | exact hTl | simp), hupk, hbegk, Lib.hid (fun h => by omega)⟩
            case measure => simp [intOf]
        · clear hend
          by_cases hT0 : T.length = 0
          · have hTe : T = [] := List.eq_nil_of_length_eq_zero hT0
            subst hTe
            clear hT0
            have hrd6 : Rd w6 w6.heap.size 1 (some ⟨g5, 0, none⟩) 0 (bvs (([] : List UInt8))) := hbeg6.rd
            go_wp2_with fail
            refine (replay_any (some ⟨g5, 0, none⟩) 0 d (([] : List UInt8)) w6 hrd6 (by omega) (by omega)).mono ?_
            intro e6 w7 hp
            have hp2 := fun W => rreplay_any (([] : List UInt8)) W (by first | omega | simp)
            obtain ⟨r, hr0⟩ : ∃ r, r = replP (([] : List UInt8)) := ⟨_, rfl⟩
            rw [← hr0] at hp
            simp only [rrepl_eq, ← hr0] at hp2
            have HR := Lib.hid hr0
            clear hr0 hrd6
            cases r with
            | none =>
              obtain ⟨rfl, hu7⟩ := hp
              have hu8 : Up w7 (w7.alloc (.cells #[.int .i64 0, .slice none 0 0, .int .u64 0, .int .u64 0, .int .u64 0, .int .u64 0] 27)) := (Up.refl w7).alloc _
              have hgx : VX w7.heap.size v0 none 0 0 (w7.alloc (.cells #[.int .i64 0, .slice none 0 0, .int .u64 0, .int .u64 0, .int .u64 0, .int .u64 0] 27)) := ⟨heap_alloc_new _ _, Rd.empty, by omega, by omega⟩
              have hu68 := hu7.trans hu8
              have hcv : (convert 43 9 (.slice (some ⟨g5, 0, none⟩) 0 d)).run Try.prog (w7.alloc (.cells #[.int .i64 0, .slice none 0 0, .int .u64 0, .int .u64 0, .int .u64 0, .int .u64 0] 27)) = .ok (.string (tx (([] : List UInt8)))) _ := run_str d (Rd.up (show Rd w6 w6.heap.size 1 (some ⟨g5, 0, none⟩) 0 (bvs (([] : List UInt8))) from hbeg6.rd) hu68)
              go_wp2_with fail
              generalize w7.heap.size = gx at *
              generalize (w7.alloc (.cells #[.int .i64 0, .slice none 0 0, .int .u64 0, .int .u64 0, .int .u64 0, .int .u64 0] 27)) = w8 at *
              clear hcv hu7 hu8
              refine (hp2 _).mono ?_
              clear hp2
              intro e9 w9 hp9
              obtain ⟨rfl, hu9⟩ := hp9
              have hu10 : Up w9 (w9.alloc (.cells #[.int .i64 0, .slice none 0 0, .int .u64 0, .int .u64 0, .int .u64 0, .int .u64 0] 27)) := (Up.refl w9).alloc _
              have hvy : VX w9.heap.size v0 none 0 0 (w9.alloc (.cells #[.int .i64 0, .slice none 0 0, .int .u64 0, .int .u64 0, .int .u64 0, .int .u64 0] 27)) := ⟨heap_alloc_new _ _, Rd.empty, by omega, by omega⟩
              have hvx := hgx.up (hu9.trans hu10)
              have hu610 := hu68.trans (hu9.trans hu10)
              generalize hgyE : w9.heap.size = gy at *
              obtain ⟨q0, q1, q2, q3, q4, q5⟩ := vw_c6 hvx.blk
              obtain ⟨r0, r1, r2, r3, r4, r5⟩ := vw_c6 hvy.blk
              have HSV := Lib.hid (sameV_self v0)
              go_wp2_with fail
              clear q0 q1 q2 q3 q4 q5 r0 r1 r2 r3 r4 r5
              (try rw [hgyE])
              generalize (w9.alloc (.cells #[.int .i64 0, .slice none 0 0, .int .u64 0, .int .u64 0, .int .u64 0, .int .u64 0] 27)) = w10 at *
              refine (sameView_any v0.1 none 0 0 v0.2.1 v0.2.2.1 v0.2.2.2.1 v0.2.2.2.2.1 v0.2.2.2.2.2 v0.1 none 0 0 v0.2.1 v0.2.2.1 v0.2.2.2.1 v0.2.2.2.2.1 v0.2.2.2.2.2 w10 hvx.rd hvy.rd (by omega) (by omega)).mono ?_
              rintro e11 w11 ⟨rfl, hu11⟩
              rw [HSV.out]
              have hu611 := hu610.trans hu11
              have hu6k := hu611
              clear hvx hvy hgx
              have hupk := hup6.trans hu6k
              have hbegk := hbeg6.up hu6k
              go_wp2_with fail
              go_roundw
              case rel => exact ⟨2, ([] : List UInt8), d, by go_num, rfl, hTd, by omega, (by first | exact hTl | simp), hupk, hbegk, Lib.hid (fun h => by omega)⟩
              case measure => simp [intOf]
            | some u =>
              obtain ⟨u, un⟩ := u
              obtain ⟨R, rn, rc, rfl, hrd7, hrc, hrn, hu7⟩ := hp
              (try dsimp only at hrd7)
              unfold vcs
              (try dsimp only)
              have hu8 : Up w7 (w7.alloc (.cells #[.int .i64 u.1, .slice R rn rc, .int .u64 (u.2.2.1 : Int), .int .u64 (u.2.2.2.1 : Int), .int .u64 (u.2.2.2.2.1 : Int), .int .u64 (u.2.2.2.2.2 : Int)] 27)) := (Up.refl w7).alloc _
              have hgx : VX w7.heap.size u R rn rc (w7.alloc (.cells #[.int .i64 u.1, .slice R rn rc, .int .u64 (u.2.2.1 : Int), .int .u64 (u.2.2.2.1 : Int), .int .u64 (u.2.2.2.2.1 : Int), .int .u64 (u.2.2.2.2.2 : Int)] 27)) := ⟨heap_alloc_new _ _, hrd7.up hu8, hrc, hrn⟩
              have hu68 := hu7.trans hu8
              have hcv : (convert 43 9 (.slice (some ⟨g5, 0, none⟩) 0 d)).run Try.prog (w7.alloc (.cells #[.int .i64 u.1, .slice R rn rc, .int .u64 (u.2.2.1 : Int), .int .u64 (u.2.2.2.1 : Int), .int .u64 (u.2.2.2.2.1 : Int), .int .u64 (u.2.2.2.2.2 : Int)] 27)) = .ok (.string (tx (([] : List UInt8)))) _ := run_str d (Rd.up (show Rd w6 w6.heap.size 1 (some ⟨g5, 0, none⟩) 0 (bvs (([] : List UInt8))) from hbeg6.rd) hu68)
              go_wp2_with fail
              generalize w7.heap.size = gx at *
              generalize (w7.alloc (.cells #[.int .i64 u.1, .slice R rn rc, .int .u64 (u.2.2.1 : Int), .int .u64 (u.2.2.2.1 : Int), .int .u64 (u.2.2.2.2.1 : Int), .int .u64 (u.2.2.2.2.2 : Int)] 27)) = w8 at *
              clear hcv hu7 hu8 hrd7
              refine (hp2 _).mono ?_
              clear hp2
              intro e9 w9 hp9
              obtain ⟨Q, qn, qc, rfl, hrd9, hqc, hqn, hu9⟩ := hp9
              (try dsimp only at hrd9)
              unfold vcs
              (try dsimp only)
              have hu10 : Up w9 (w9.alloc (.cells #[.int .i64 u.1, .slice Q qn qc, .int .u64 (u.2.2.1 : Int), .int .u64 (u.2.2.2.1 : Int), .int .u64 (u.2.2.2.2.1 : Int), .int .u64 (u.2.2.2.2.2 : Int)] 27)) := (Up.refl w9).alloc _
              have hvy : VX w9.heap.size u Q qn qc (w9.alloc (.cells #[.int .i64 u.1, .slice Q qn qc, .int .u64 (u.2.2.1 : Int), .int .u64 (u.2.2.2.1 : Int), .int .u64 (u.2.2.2.2.1 : Int), .int .u64 (u.2.2.2.2.2 : Int)] 27)) := ⟨heap_alloc_new _ _, hrd9.up hu10, hqc, hqn⟩
              have hvx := hgx.up (hu9.trans hu10)
              have hu610 := hu68.trans (hu9.trans hu10)
              generalize hgyE : w9.heap.size = gy at *
              obtain ⟨q0, q1, q2, q3, q4, q5⟩ := vw_c6 hvx.blk
              obtain ⟨r0, r1, r2, r3, r4, r5⟩ := vw_c6 hvy.blk
              have HSV := Lib.hid (sameV_self u)
              go_wp2_with fail
              clear q0 q1 q2 q3 q4 q5 r0 r1 r2 r3 r4 r5
              (try rw [hgyE])
              generalize (w9.alloc (.cells #[.int .i64 u.1, .slice Q qn qc, .int .u64 (u.2.2.1 : Int), .int .u64 (u.2.2.2.1 : Int), .int .u64 (u.2.2.2.2.1 : Int), .int .u64 (u.2.2.2.2.2 : Int)] 27)) = w10 at *
              refine (sameView_any u.1 R rn rc u.2.1 u.2.2.1 u.2.2.2.1 u.2.2.2.2.1 u.2.2.2.2.2 u.1 Q qn qc u.2.1 u.2.2.1 u.2.2.2.1 u.2.2.2.2.1 u.2.2.2.2.2 w10 hvx.rd hvy.rd (by omega) (by omega)).mono ?_
              rintro e11 w11 ⟨rfl, hu11⟩
              rw [HSV.out]
              have hu611 := hu610.trans hu11
              have hu6k := hu611
              clear hvx hvy hgx
              have hupk := hup6.trans hu6k
              have hbegk := hbeg6.up hu6k
              go_wp2_with fail
              go_roundw
              case rel => exact ⟨2, ([] : List UInt8), d, by go_num, rfl, hTd, by omega, (by first | exact hTl | simp), hupk, hbegk, Lib.hid (fun h => by omega)⟩
              case measure => simp [intOf]
          · obtain ⟨N, hN⟩ : ∃ N, N = T.length := ⟨_, rfl⟩
            obtain ⟨C, hC, hC2⟩ := i64_and_le at0 16777215 (by omega)
            replace hC : bits .and .i64 at0 16777215 = (C : Int) := hC
            obtain ⟨D, hD, hD2⟩ := i64_and_le cut 65535 (by omega)
            replace hD : bits .and .i64 cut 65535 = (D : Int) := hD
            rw [← hN] at hT0 hTd hTl ⊢
            obtain ⟨P, hP, hPN⟩ : ∃ P : Nat, (D : Int) % ((N : Int) + 1) = (P : Int) ∧ P ≤ N := ⟨D % (N + 1), (by rw [Int.natCast_emod]; rfl), by have := Nat.mod_lt D (show 0 < N + 1 by omega); omega⟩
            have hP0 : ¬ ((N : Int) + 1 = 0) := by omega
            obtain ⟨I, hI, hIN⟩ : ∃ I : Nat, (C : Int) % (N : Int) = (I : Int) ∧ I < N := ⟨C % N, by rw [Int.natCast_emod], Nat.mod_lt C (by omega)⟩
            have hN1 : ¬ ((N : Int) = 0) := by omega
            have hNp : (0 : Int) < (N : Int) := by omega
            have hIN2 : (I : Int) < (N : Int) := by omega
            have hIT : I < T.length := by rw [← hN]; exact hIN
            have HN := Lib.hid hN
            clear hN
            obtain ⟨y, hy⟩ := xor_byte ((T.getD I 0).toNat : Int) by0
            have hc8 : w6.cell? ⟨g5, I, none⟩ = some (.int .u8 ((T.getD I 0).toNat : Int)) := hbeg6.cell hIT
            have hf8 := hbeg6.free hIT
            have hbeg7 := hbeg6.set hIT y
            have hlen2 : (T.set I y).length = N := by rw [List.length_set, ← HN.out]
            have hup7 : Up w (w6.setCell ⟨g5, I, none⟩ (bv y)) := keepsUp (wq := w6) hup6 hg5 (setc_keeps w6 w6 g5 I _ (Rg.Keeps.refl _ _))
            have hbv : bv y = .int .u8 (y.toNat : Int) := rfl
            rw [hbv] at hbeg7 hup7
            generalize T.getD I 0 = t0 at *
            generalize T.set I y = T2 at *
            go_wp2_with fail
            clear hc8 hf8 hbeg6 hup6
            generalize w6.setCell ⟨g5, I, none⟩ (.int .u8 (y.toNat : Int)) = w6 at *
            have hL3 : (T2.take (N - P)).length = N - P := by rw [List.length_take]; omega
            have hbeg6 := Beg.take hbeg7 (N - P)
            have hup6 := hup7
            generalize T2.take (N - P) = T3 at *
            rw [← hL3]
            have hTd2 : T3.length ≤ d := by omega
            have hTl2 : T3.length ≤ 36000 := by omega
            clear hTd hTl hbeg7 hup7 hy hlen2 hC hD hP hI hIT hIN2 hNp hN1 hP0 hL3
            have hTd := hTd2
            have hTl := hTl2
            clear hTd2 hTl2
            have hrd6 : Rd w6 w6.heap.size 1 (some ⟨g5, 0, none⟩) (T3).length (bvs (T3)) := hbeg6.rd
            refine (replay_any (some ⟨g5, 0, none⟩) (T3).length d (T3) w6 hrd6 (by omega) (by omega)).mono ?_
            intro e6 w7 hp
            have hp2 := fun W => rreplay_any (T3) W (by first | omega | simp)
            obtain ⟨r, hr0⟩ : ∃ r, r = replP (T3) := ⟨_, rfl⟩
            rw [← hr0] at hp
            simp only [rrepl_eq, ← hr0] at hp2
            have HR := Lib.hid hr0
            clear hr0 hrd6
            cases r with
            | none =>
              obtain ⟨rfl, hu7⟩ := hp
              have hu8 : Up w7 (w7.alloc (.cells #[.int .i64 0, .slice none 0 0, .int .u64 0, .int .u64 0, .int .u64 0, .int .u64 0] 27)) := (Up.refl w7).alloc _
              have hgx : VX w7.heap.size v0 none 0 0 (w7.alloc (.cells #[.int .i64 0, .slice none 0 0, .int .u64 0, .int .u64 0, .int .u64 0, .int .u64 0] 27)) := ⟨heap_alloc_new _ _, Rd.empty, by omega, by omega⟩
              have hu68 := hu7.trans hu8
              have hcv : (convert 43 9 (.slice (some ⟨g5, 0, none⟩) (T3).length d)).run Try.prog (w7.alloc (.cells #[.int .i64 0, .slice none 0 0, .int .u64 0, .int .u64 0, .int .u64 0, .int .u64 0] 27)) = .ok (.string (tx (T3))) _ := run_str d (Rd.up (show Rd w6 w6.heap.size 1 (some ⟨g5, 0, none⟩) (T3).length (bvs (T3)) from hbeg6.rd) hu68)
              go_wp2_with fail
              generalize w7.heap.size = gx at *
              generalize (w7.alloc (.cells #[.int .i64 0, .slice none 0 0, .int .u64 0, .int .u64 0, .int .u64 0, .int .u64 0] 27)) = w8 at *
              clear hcv hu7 hu8
              refine (hp2 _).mono ?_
              clear hp2
              intro e9 w9 hp9
              obtain ⟨rfl, hu9⟩ := hp9
              have hu10 : Up w9 (w9.alloc (.cells #[.int .i64 0, .slice none 0 0, .int .u64 0, .int .u64 0, .int .u64 0, .int .u64 0] 27)) := (Up.refl w9).alloc _
              have hvy : VX w9.heap.size v0 none 0 0 (w9.alloc (.cells #[.int .i64 0, .slice none 0 0, .int .u64 0, .int .u64 0, .int .u64 0, .int .u64 0] 27)) := ⟨heap_alloc_new _ _, Rd.empty, by omega, by omega⟩
              have hvx := hgx.up (hu9.trans hu10)
              have hu610 := hu68.trans (hu9.trans hu10)
              generalize hgyE : w9.heap.size = gy at *
              obtain ⟨q0, q1, q2, q3, q4, q5⟩ := vw_c6 hvx.blk
              obtain ⟨r0, r1, r2, r3, r4, r5⟩ := vw_c6 hvy.blk
              have HSV := Lib.hid (sameV_self v0)
              go_wp2_with fail
              clear q0 q1 q2 q3 q4 q5 r0 r1 r2 r3 r4 r5
              (try rw [hgyE])
              generalize (w9.alloc (.cells #[.int .i64 0, .slice none 0 0, .int .u64 0, .int .u64 0, .int .u64 0, .int .u64 0] 27)) = w10 at *
              refine (sameView_any v0.1 none 0 0 v0.2.1 v0.2.2.1 v0.2.2.2.1 v0.2.2.2.2.1 v0.2.2.2.2.2 v0.1 none 0 0 v0.2.1 v0.2.2.1 v0.2.2.2.1 v0.2.2.2.2.1 v0.2.2.2.2.2 w10 hvx.rd hvy.rd (by omega) (by omega)).mono ?_
              rintro e11 w11 ⟨rfl, hu11⟩
              rw [HSV.out]
              have hu611 := hu610.trans hu11
              have hu6k := hu611
              clear hvx hvy hgx
              have hupk := hup6.trans hu6k
              have hbegk := hbeg6.up hu6k
              go_wp2_with fail
              go_roundw
              case rel => exact ⟨2, T3, d, by go_num, rfl, hTd, by omega, (by first | exact hTl | simp), hupk, hbegk, Lib.hid (fun h => by omega)⟩
              case measure => simp [intOf]
            | some u =>
              obtain ⟨u, un⟩ := u
              obtain ⟨R, rn, rc, rfl, hrd7, hrc, hrn, hu7⟩ := hp
              (try dsimp only at hrd7)
              unfold vcs
              (try dsimp only)
              have hu8 : Up w7 (w7.alloc (.cells #[.int .i64 u.1, .slice R rn rc, .int .u64 (u.2.2.1 : Int), .int .u64 (u.2.2.2.1 : Int), .int .u64 (u.2.2.2.2.1 : Int), .int .u64 (u.2.2.2.2.2 : Int)] 27)) := (Up.refl w7).alloc _
              have hgx : VX w7.heap.size u R rn rc (w7.alloc (.cells #[.int .i64 u.1, .slice R rn rc, .int .u64 (u.2.2.1 : Int), .int .u64 (u.2.2.2.1 : Int), .int .u64 (u.2.2.2.2.1 : Int), .int .u64 (u.2.2.2.2.2 : Int)] 27)) := ⟨heap_alloc_new _ _, hrd7.up hu8, hrc, hrn⟩
              have hu68 := hu7.trans hu8
              have hcv : (convert 43 9 (.slice (some ⟨g5, 0, none⟩) (T3).length d)).run Try.prog (w7.alloc (.cells #[.int .i64 u.1, .slice R rn rc, .int .u64 (u.2.2.1 : Int), .int .u64 (u.2.2.2.1 : Int), .int .u64 (u.2.2.2.2.1 : Int), .int .u64 (u.2.2.2.2.2 : Int)] 27)) = .ok (.string (tx (T3))) _ := run_str d (Rd.up (show Rd w6 w6.heap.size 1 (some ⟨g5, 0, none⟩) (T3).length (bvs (T3)) from hbeg6.rd) hu68)
              go_wp2_with fail
              generalize w7.heap.size = gx at *
              generalize (w7.alloc (.cells #[.int .i64 u.1, .slice R rn rc, .int .u64 (u.2.2.1 : Int), .int .u64 (u.2.2.2.1 : Int), .int .u64 (u.2.2.2.2.1 : Int), .int .u64 (u.2.2.2.2.2 : Int)] 27)) = w8 at *
              clear hcv hu7 hu8 hrd7
              refine (hp2 _).mono ?_
              clear hp2
              intro e9 w9 hp9
              obtain ⟨Q, qn, qc, rfl, hrd9, hqc, hqn, hu9⟩ := hp9
              (try dsimp only at hrd9)
              unfold vcs
              (try dsimp only)
              have hu10 : Up w9 (w9.alloc (.cells #[.int .i64 u.1, .slice Q qn qc, .int .u64 (u.2.2.1 : Int), .int .u64 (u.2.2.2.1 : Int), .int .u64 (u.2.2.2.2.1 : Int), .int .u64 (u.2.2.2.2.2 : Int)] 27)) := (Up.refl w9).alloc _
              have hvy : VX w9.heap.size u Q qn qc (w9.alloc (.cells #[.int .i64 u.1, .slice Q qn qc, .int .u64 (u.2.2.1 : Int), .int .u64 (u.2.2.2.1 : Int), .int .u64 (u.2.2.2.2.1 : Int), .int .u64 (u.2.2.2.2.2 : Int)] 27)) := ⟨heap_alloc_new _ _, hrd9.up hu10, hqc, hqn⟩
              have hvx := hgx.up (hu9.trans hu10)
              have hu610 := hu68.trans (hu9.trans hu10)
              generalize hgyE : w9.heap.size = gy at *
              obtain ⟨q0, q1, q2, q3, q4, q5⟩ := vw_c6 hvx.blk
              obtain ⟨r0, r1, r2, r3, r4, r5⟩ := vw_c6 hvy.blk
              have HSV := Lib.hid (sameV_self u)
              go_wp2_with fail
              clear q0 q1 q2 q3 q4 q5 r0 r1 r2 r3 r4 r5
              (try rw [hgyE])
              generalize (w9.alloc (.cells #[.int .i64 u.1, .slice Q qn qc, .int .u64 (u.2.2.1 : Int), .int .u64 (u.2.2.2.1 : Int), .int .u64 (u.2.2.2.2.1 : Int), .int .u64 (u.2.2.2.2.2 : Int)] 27)) = w10 at *
              refine (sameView_any u.1 R rn rc u.2.1 u.2.2.1 u.2.2.2.1 u.2.2.2.2.1 u.2.2.2.2.2 u.1 Q qn qc u.2.1 u.2.2.1 u.2.2.2.1 u.2.2.2.2.1 u.2.2.2.2.2 w10 hvx.rd hvy.rd (by omega) (by omega)).mono ?_
              rintro e11 w11 ⟨rfl, hu11⟩
              rw [HSV.out]
              have hu611 := hu610.trans hu11
              have hu6k := hu611
              clear hvx hvy hgx
              have hupk := hup6.trans hu6k
              have hbegk := hbeg6.up hu6k
              go_wp2_with fail
              go_roundw
              case rel => exact ⟨2, T3, d, by go_num, rfl, hTd, by omega, (by first | exact hTl | simp), hupk, hbegk, Lib.hid (fun h => by omega)⟩
              case measure => simp [intOf]
        · go_wp2_with (go_at_call 11; with_reducible refine (awake15_any _).mono ?_; rintro e w7 ⟨rfl, hu7⟩)
          go_ret
          exact ⟨rfl, hup6.trans hu7⟩
end Go.Proofs.Ytokcaoaclheiiaa.editApplies

/-
  'clepsydra/clepsydralaw15.EditApplies': for every input the law returns true; each argument reads behind the call as it read before. No condition.
-/
namespace Go.Proofs.Ytokcaoaclheiiaa.editApplies
open Go.ChangeShapes Go.WideShapes Go.ChangeAt Go.RowKit
open Go.ChangeMaps (open_string shut_string)
set_option linter.unusedVariables false

set_option maxRecDepth 100000 in
theorem lifted (os : Os) (started : os.Started) (H : Type) (enc : TypeId × Value → H) :
    ReturnsInHanded {} Try.checked os 7 .any (Rows.editAppliesSpec.pre6 enc Try.prog Try.f7 Rows.editAppliesRow.domain false) (Rows.editAppliesSpec.post enc Try.prog Try.f7 false true false false) := by
  refine returnsInHanded_of_change (C := Try.checked) prog_own started (by kernel_rfl) Try.func7
    (ChangeSpec.witness6 (enc := enc) (C := Try.checked) false ⟨#[], #[.slice none 0 0, .int .i64 0, .int .u8 0, .int .i64 0], []⟩ 8 (by kernel_rfl) (by kernel_rfl) (by kernel_rfl) (by kernel_rfl)) ?_
  intro W base args ds gs before hval0 hW hcnd _
  have hval : ∀ (j : Nat) t v, Try.f7.params[j]? = some t → args[j]? = some v → Value.okWide Try.prog W .any base t v := hval0
  have hW' := hW
  obtain ⟨p, q, hA0, hV, rfl, hfz, hnd⟩ := hW
  have hA : DataW.TrodAll enc Try.prog W 0 (fun _ => true) true Try.f7.params.toList args.toList ds p := hA0
  rw [Try.params7] at hA hval
  obtain ⟨v0, vs0, d0, ds0, p0, q0, hargs, rfl, rfl, h0, r0⟩ := trodAll_cons hA
  obtain ⟨v1, vs1, d1, ds1, p1, q1, rfl, rfl, rfl, h1, r1⟩ := trodAll_cons r0
  obtain ⟨v2, vs2, d2, ds2, p2, q2, rfl, rfl, rfl, h2, r2⟩ := trodAll_cons r1
  obtain ⟨v3, vs3, d3, ds3, p3, q3, rfl, rfl, rfl, h3, r3⟩ := trodAll_cons r2
  obtain ⟨rfl, rfl, rfl⟩ := trodAll_nil r3
  obtain rfl : args = #[v0, v1, v2, v3] := by cases args; simp_all
  obtain ⟨rfl, rfl⟩ := trodVars_none hV
  obtain ⟨a0, len0, cap0, rfl⟩ := okWide_slice Try.underlying36 (hval 0 36 v0 rfl rfl)
  have k0 := h0
  have lt0 : ∀ x ∈ p0, x.block < W.heap.size := by obtain ⟨m, hm⟩ := k0; exact DataW.trod_lt m _ _ _ hm
  obtain ⟨l0, w0⟩ := is_es h0
  obtain ⟨a1, rfl, rfl, rfl, w1⟩ := open_int Try.underlying3 (hval 1 3 v1 rfl rfl) h1
  have b1 := bd_i64 w1
  obtain ⟨a2, rfl, rfl, rfl, w2⟩ := open_int Try.underlying5 (hval 2 5 v2 rfl rfl) h2
  have b2 := bd_u8 w2
  obtain ⟨a3, rfl, rfl, rfl, w3⟩ := open_int Try.underlying3 (hval 3 3 v3 rfl rfl) h3
  have b3 := bd_i64 w3
  clear hA0 hval0
  refine (law_any a0 len0 cap0 l0 a1 a2 a3 W w0 b1 b2 b3).mono fun e W' ⟨he, bel⟩ => ?_
  subst he
  exact ⟨_, rfl, _, _, _, [], _, [], hW', trodAll_mk1 (shut_bool Try.underlying4 _), (trodAll_cons_mk (Below.trod laidOut (by kernel_rfl) (of_decide_eq_true (by kernel_rfl)) k0 bel lt0) (trodAll_cons_mk (shut_int Try.underlying3 w1) (trodAll_cons_mk (shut_int Try.underlying5 w2) (trodAll_cons_mk (shut_int Try.underlying3 w3) trodAll_mk0)))), rfl, bel.frame _, fun h => by cases h⟩

theorem proved : Rows.EditAppliesSaid :=
  OpenClaim.holds_of_wide 7 Try.f7 rfl rfl rfl rfl rfl rfl rfl ⟨rfl, rfl, rfl, rfl, rfl⟩ rfl rfl rfl rfl rfl (by kernel_rfl) Try.func7 (by kernel_rfl)
    (of_decide_eq_true (by kernel_rfl)) (by unfold Func.isWrapper; first | (rw [if_pos (by decide +kernel)]; kernel_rfl) | (rw [if_neg (by decide +kernel)]; exact ⟨rfl, rfl⟩))
    (fun os started H enc _ => lifted os started H enc)
#print axioms proved
end Go.Proofs.Ytokcaoaclheiiaa.editApplies
