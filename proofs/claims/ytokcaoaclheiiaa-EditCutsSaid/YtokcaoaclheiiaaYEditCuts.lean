/-
  'clepsydra/clepsydralaw15.EditCuts': for every input the law returns true; each argument reads behind the call as it read before. No condition.
-/
import Derived.Laws.BitsAllLaws
import Derived.IntWalk
import Derived.Deep.Cut
import Derived.Deep.CutRange
import Derived.Test.YtokcaoaclheiiaaZ5
/-
  The law EditCuts: the walk.
-/
namespace Go.Proofs.Ytokcaoaclheiiaa.editCuts
open Go.RowKit
set_option linter.unusedVariables false
set_option linter.unusedSimpArgs false

def C6 (W : World) (g : Nat) (v : VT) (A : Option Addr) (n c : Nat) : Prop := W.cell? ⟨g, 0, none⟩ = some (.int .i64 v.1) ∧ W.cell? ⟨g, 1, none⟩ = some (.slice A n c) ∧ W.cell? ⟨g, 2, none⟩ = some (.int .u64 (v.2.2.1 : Int)) ∧ W.cell? ⟨g, 3, none⟩ = some (.int .u64 (v.2.2.2.1 : Int)) ∧ W.cell? ⟨g, 4, none⟩ = some (.int .u64 (v.2.2.2.2.1 : Int)) ∧ W.cell? ⟨g, 5, none⟩ = some (.int .u64 (v.2.2.2.2.2 : Int))
theorem vw_c6 {W : World} {g : Nat} {v : VT} {A : Option Addr} {n c : Nat} (h : W.heap[g]? = some (.cells (vcs v A n c) 27 (0, 0))) : C6 W g v A n c := ⟨blk_cell h 0, blk_cell h 1, blk_cell h 2, blk_cell h 3, blk_cell h 4, blk_cell h 5⟩
def EV (A : Option Addr) (lg f : Int) : Value := .agg #[.slice none 0 0, .slice A 1 1, .int .i64 lg, .int .u64 f, .int .u64 0, .int .u64 0, .int .u64 0]
theorem tx_take (l : List UInt8) (n : Nat) : (tx l).extract 0 n = tx (l.take n) := tx_of (by simp [tx_list])
structure EE (w0 : World) (ge gf : Nat) (D : Option Addr) (dn k fl lv : Nat) (ds : List Int) (W : World) : Prop where
  up : Up w0 W
  hge : W.heap[ge]? = some (.cells #[.slice D dn dn, .slice (some ⟨gf, 0, none⟩) 1 1, .int .i64 ((k : Int) + 1), .int .u64 (fl : Int), .int .u64 0, .int .u64 0, .int .u64 0] 32 (0, 0))
  rd : Rd W W.heap.size 1 D dn (nmv ds)
  ra : Rd W W.heap.size 2 (some ⟨gf, 0, none⟩) 1 (fvs [((lv : Int), (k : Int) + 10)])
  dn1 : dn ≤ 1
theorem EE.toUp {w0 W W' : World} {ge gf dn k fl lv : Nat} {D : Option Addr} {ds : List Int} (h : EE w0 ge gf D dn k fl lv ds W) (hu : Up W W') : EE w0 ge gf D dn k fl lv ds W' :=
  ⟨h.up.trans hu, blk_upE hu h.hge, h.rd.up hu, h.ra.up hu, h.dn1⟩
theorem rd_file {W : World} {gf : Nat} {a b : Int} (h : W.heap[gf]? = some (.cells #[.int .i64 a, .int .i64 b] 41 (0, 0))) : Rd W W.heap.size 2 (some ⟨gf, 0, none⟩) 1 (fvs [(a, b)]) := by
  refine ⟨rfl, fun _ => ⟨gf, 0, rfl, (Array.getElem?_eq_some_iff.1 h).1, fun j u hj => ?_⟩⟩
  match j with
  | 0 => simp [fvs, flc] at hj; subst hj; exact blk_cell h 0
  | 1 => simp [fvs, flc] at hj; subst hj; exact blk_cell h 1
  | j + 2 => simp [fvs, flc] at hj
theorem ee_drop {w0 W : World} {ge gf k fl lv : Nat} {x : Int} (hu : Up w0 W) (hB : w0.heap.size ≤ ge) (hge : W.heap[ge]? = some (.cells #[.slice none 0 0, .slice (some ⟨gf, 0, none⟩) 1 1, .int .i64 ((k : Int) + 1), .int .u64 (fl : Int), .int .u64 0, .int .u64 0, .int .u64 0] 32 (0, 0)))
    (hgf : W.heap[gf]? = some (.cells #[.int .i64 (lv : Int), .int .i64 ((k : Int) + 10)] 41 (0, 0))) :
    EE w0 ge gf (some ⟨W.heap.size, 0, none⟩) 1 k fl lv [x] ((W.alloc (.cells #[.int .i64 x] 3)).setCell ⟨ge, 0, none⟩ (.slice (some ⟨W.heap.size, 0, none⟩) 1 1)) := by
  have hu2 : Up W (W.alloc (.cells #[.int .i64 x] 3)) := (Up.refl W).alloc _
  have hge2 := blk_upE hu2 hge
  have hgf2 := blk_upE hu2 hgf
  have hK : Rg.Keeps (fun y => y = ge) (W.alloc (.cells #[.int .i64 x] 3)) ((W.alloc (.cells #[.int .i64 x] 3)).setCell ⟨ge, 0, none⟩ (.slice (some ⟨W.heap.size, 0, none⟩) 1 1)) := setc_keeps _ _ _ _ _ (Rg.Keeps.refl _ _)
  have hlt := (Array.getElem?_eq_some_iff.1 hge).1
  have hne : ge ≠ gf := fun e => by
    subst e
    rw [hge] at hgf
    injection hgf with hgf
    injection hgf with h1 h2
    exact absurd h2 (by decide)
  refine ⟨keepsUp (hu.trans hu2) hB hK, ?_, ?_, ?_, Nat.le_refl _⟩
  · exact setc_heap _ ge 0 _ _ _ hge2
  · have h := Rd.made W #[.int .i64 x] 3 (sz := 1) (n := 1) rfl
    exact h.keepsNe (Nat.le_refl _) (fun a ha => by injection ha with ha; subst ha; show W.heap.size ≠ ge; omega) hK
  · exact rd_file ((hK.block gf (Array.getElem?_eq_some_iff.1 hgf2).1 (fun e => hne e.symm)).trans hgf2)
set_option maxRecDepth 100000 in
set_option maxHeartbeats 4000000 in
theorem law_any (A : Option Addr) (n c : Nat) (l : List Int64) (cut : Int) (w : World) (hr : IsZ w A n c l) (b1 : -9223372036854775808 ≤ cut ∧ cut ≤ 9223372036854775807) :
    Calls Try.prog 8 #[.slice A n c, .int .i64 cut] w fun e w' => e = .returned (.bool true) ∧ Up w w' := by
  have hn : n ≤ 9223372036854775807 := by have := hr.2; omega
  obtain ⟨w1, hw1⟩ : ∃ w1, w1 = ((w.alloc (.cells #[.int .i64 0, .slice none 0 0, .int .u64 0, .int .u64 0, .int .u64 0, .int .u64 0] 27)).alloc (.cells #[.int .i64 0, .slice none 0 0, .int .u64 0, .int .u64 0, .int .u64 0, .int .u64 0] 27)).alloc (.cells #[.int .i64 0] 3) := ⟨_, rfl⟩
  have hup1 : Up w w1 := by rw [hw1]; exact (((Up.refl w).alloc _).alloc _).alloc _
  have hv1 : VW w.heap.size v0 none 0 0 w1 := by
    refine ⟨?_, Rd.empty, by omega, by omega, fun a ha => by cases ha⟩
    rw [hw1, Below.heap_alloc _ _ _ (by simp <;> omega), Below.heap_alloc _ _ _ (by simp)]
    exact heap_alloc_new w _
  have hvi1 : VI (w.heap.size + 1) w.heap.size [⟨v0, none, 0, 0⟩] [0] (some ⟨w.heap.size + 1, 0, none⟩) (some ⟨w.heap.size + 1 + 1, 0, none⟩) 1 1 1 1 w1 := by
    refine ⟨rfl, rfl, ?_, ?_, fun p hp => ?_, fun p hp a ha => ?_⟩
    · rw [hw1]
      refine own_up (w := (w.alloc (.cells #[.int .i64 0, .slice none 0 0, .int .u64 0, .int .u64 0, .int .u64 0, .int .u64 0] 27)).alloc (.cells #[.int .i64 0, .slice none 0 0, .int .u64 0, .int .u64 0, .int .u64 0, .int .u64 0] 27)) ?_ ((Up.refl _).alloc _)
      have h := row_new (w.alloc (.cells #[.int .i64 0, .slice none 0 0, .int .u64 0, .int .u64 0, .int .u64 0, .int .u64 0] 27)) #[.int .i64 0, .slice none 0 0, .int .u64 0, .int .u64 0, .int .u64 0, .int .u64 0] 27 (base := w.heap.size + 1) (sz := 6) (n := 1) (by simp) rfl (by omega)
      rwa [World.size_alloc] at h
    · rw [hw1]
      have h := row_new ((w.alloc (.cells #[.int .i64 0, .slice none 0 0, .int .u64 0, .int .u64 0, .int .u64 0, .int .u64 0] 27)).alloc (.cells #[.int .i64 0, .slice none 0 0, .int .u64 0, .int .u64 0, .int .u64 0, .int .u64 0] 27)) #[.int .i64 0] 3 (base := w.heap.size + 1) (sz := 1) (n := 1) (by simp) rfl (by omega)
      rwa [World.size_alloc, World.size_alloc] at h
    · rw [List.mem_singleton] at hp; subst hp; exact ⟨Rd.empty, Nat.zero_le _, Nat.le_refl _⟩
    · rw [List.mem_singleton] at hp; subst hp; cases ha
  have HW := Lib.hid hw1
  clear hw1
  go_enter Try.func8, Try.ntmps8
  go_wp2_with fail
  rw [← HW.out]
  clear HW
  generalize hgV : w.heap.size + 1 = gb at *
  generalize hgE : gb + 1 = gc at *
  generalize hgv : w.heap.size = gv at hv1 hvi1 ⊢
  have hgvw : w.heap.size ≤ gv := Nat.le_of_eq hgv
  have hB : gv < gb := by omega
  go_loopw [6, 7, 8, 9] (fun vv ev sv i wr => ∃ (k : Nat) (ps : List PV) (es : List Nat) (VS ES : Option Addr) (vc ec : Nat) (S : List UInt8) (v : VT) (A6 : Option Addr) (n6 c6 : Nat), i = .int .i64 (k : Int) ∧ vv = .slice VS (k + 1) vc ∧ ev = .slice ES (k + 1) ec ∧ sv = .string (tx S) ∧ k ≤ 12 ∧ k ≤ n ∧ Up w wr ∧ VW gv v A6 n6 c6 wr ∧ VI gb gv ps es VS ES (k + 1) (k + 1) vc ec wr ∧ Hid (CutI S (ps.map PV.v) es v k) ∧ Hid (EcV k v) ∧ S.length ≤ 1800 * k) (fun _ _ _ i _ => 12 - (intOf i).toNat)
  case atStart => exact ⟨0, [⟨v0, none, 0, 0⟩], [0], _, _, 1, 1, [], v0, none, 0, 0, rfl, rfl, rfl, rfl, by omega, by omega, hup1, hv1, hvi1, CutI.nil, EcV.zero, by simp⟩
  case round =>
    obtain ⟨k, ps, es, VS, ES, vc, ec, S, v, A6, n6, c6, rfl, rfl, rfl, rfl, hk12, hkn, hup, hv, hvi, hci, hec, hsl⟩ := hrel
    clear hv1 hvi1 hup1
    by_cases hlt : k < n
    · by_cases h12 : k < 12
      · obtain ⟨b, o, rfl, hbB, hcell0⟩ := hr.1.znum hlt
        generalize (l.getD k 0).toInt = x at *
        have i1 : (k : Int) < (n : Int) := by omega
        have i2 : (k : Int) < 12 := by omega
        obtain ⟨fl, hfl, hfl2⟩ := i64_and_le x 255 (by omega)
        obtain ⟨lv, hlv, hlv2⟩ := i64_and_le x 3 (by omega)
        replace hfl : bits .and .i64 x 255 = (fl : Int) := hfl
        replace hlv : bits .and .i64 x 3 = (lv : Int) := hlv
        have hflw : IntKind.u64.wrap (fl : Int) = (fl : Int) := by rw [IntKind.wrap_u64]; omega
        have hcell : ∀ W, Up wr W → Up wr W ∧ W.cell? ⟨b, o + k, none⟩ = some (.int .i64 x) := fun W h => ⟨h, ((hup.trans h).cell (p := ⟨b, o + k, none⟩) hbB).trans hcell0⟩
        have v1 : IntKind.i64.wrap ((k : Int) + 1) = (k : Int) + 1 := IntWalk.i64_in _ (by omega)
        have v2 : IntKind.i64.wrap ((k : Int) + 10) = (k : Int) + 10 := IntWalk.i64_in _ (by omega)
        go_wp2_with fail
        apply Rg.region_up _ (by kernel_rfl) (by kernel_rfl) hcell
        · intro QN hQN
          iterate 16 (apply Rg.RK.ok; (· intro vs w1 hS; go_simp; with_reducible rfl); (· rfl); simp only [Act.put, List.setIfInBounds_toArray, List.set_cons_zero, List.set_cons_succ, Nat.reduceAdd])
          apply Rg.RK.opn (fun v W => ∃ g, wr.heap.size ≤ g ∧ v = .slice (some ⟨g, 0, none⟩) 1 1 ∧ W.heap[g]? = some (.cells #[.int .i64 (lv : Int), .int .i64 ((k : Int) + 10)] 41 (0, 0))) Rg.ob [] []
          · rintro v W1 W2 ⟨g, hBg, rfl, hh⟩ hs
            exact ⟨g, hBg, rfl, (hs.block g (Array.getElem?_eq_some_iff.1 hh).1 (.inr rfl)).trans hh⟩
          · rfl
          · intro vs w1 hK hS _ K hKK
            go_simp
            exact hKK.out _ _ ⟨w1.heap.size, hK.size, rfl, heap_alloc_new w1 _⟩ (Rg.Keeps.of_up ((Up.refl _).alloc _)) (by rintro g rfl; exact ⟨by simp, .inl (Nat.le_refl _)⟩)
          simp only [Act.put, List.setIfInBounds_toArray, List.set_cons_zero, List.set_cons_succ, Nat.reduceAdd]
          apply Rg.RK.opD (fun vs W => ∃ g, vs 16 = .slice (some ⟨g, 0, none⟩) 1 1 ∧ vs 17 = EV (some ⟨g, 0, none⟩) ((k : Int) + 1) ((fl : Int))) (fun _ _ => False) [16] [] [16] (fun vs vs' h => by rw [h 17 (by simp), h 16 (by simp)]; exact ⟨rfl, rfl⟩)
          · exact fun _ _ _ h _ => h
          · rfl
          · intro vs w1 hK hS hf K hKK
            obtain ⟨hg, -⟩ := hf
            obtain ⟨g, -, hv, -⟩ := hg
            (try dsimp only at hKK ⊢)
            rw [hv] at hKK ⊢
            have HV := Lib.hid hv
            clear hv
            go_simp
            exact hKK.out _ _ ⟨g, by rw [Rg.upd_ne _ _ (by decide)]; exact HV.out, by rw [Rg.upd_same]; rfl⟩ (Rg.Keeps.refl _ _) (fun g hg => hg.elim)
          simp only [Act.put, List.setIfInBounds_toArray, List.set_cons_zero, List.set_cons_succ, Nat.reduceAdd]
          apply Rg.RK.opn (fun v W => ∃ g, wr.heap.size ≤ g ∧ v = .pointer (some ⟨g, 0, none⟩) ∧ W.heap[g]? = some (.cells #[.slice none 0 0, .slice none 0 0, .int .i64 0, .int .u64 0, .int .u64 0, .int .u64 0, .int .u64 0] 32 (0, 0))) Rg.ob [] []
          · rintro v W1 W2 ⟨g, hBg, rfl, hh⟩ hs
            exact ⟨g, hBg, rfl, (hs.block g (Array.getElem?_eq_some_iff.1 hh).1 (.inr rfl)).trans hh⟩
          · rfl
          · intro vs w1 hK hS _ K hKK
            go_simp
            exact hKK.out _ _ ⟨w1.heap.size, hK.size, rfl, heap_alloc_new w1 _⟩ (Rg.Keeps.of_up ((Up.refl _).alloc _)) (by rintro g rfl; exact ⟨by simp, .inl (Nat.le_refl _)⟩)
          simp only [Act.put, List.setIfInBounds_toArray, List.set_cons_zero, List.set_cons_succ, Nat.reduceAdd]
          apply Rg.RK.opD (fun vs W => ∃ g ge, vs 16 = .slice (some ⟨g, 0, none⟩) 1 1 ∧ wr.heap.size ≤ ge ∧ vs 18 = .pointer (some ⟨ge, 0, none⟩) ∧ W.heap[ge]? = some (.cells #[.slice none 0 0, .slice (some ⟨g, 0, none⟩) 1 1, .int .i64 ((k : Int) + 1), .int .u64 ((fl : Int)), .int .u64 0, .int .u64 0, .int .u64 0] 32 (0, 0))) (fun vs => Rg.ob (vs 18)) [17, 18] [18] [16, 18] (fun vs vs' h => by rw [h 16 (by simp), h 18 (by simp)]; exact ⟨rfl, rfl⟩)
          · rintro vs W1 W2 ⟨g, ge, h1, hBg, h2, hh⟩ hs
            exact ⟨g, ge, h1, hBg, h2, (hs.block ge (Array.getElem?_eq_some_iff.1 hh).1 (.inr (by rw [h2]; rfl))).trans hh⟩
          · rfl
          · intro vs w1 hK hS hf K hKK
            obtain ⟨h7, h9, -⟩ := hf
            obtain ⟨g, hv5, hv7⟩ := h7
            obtain ⟨ge, hBg, hv9, hh⟩ := h9
            (try dsimp only at hKK ⊢)
            rw [hv7, hv9] at hKK ⊢
            have HV5 := Lib.hid hv5
            have HV9 := Lib.hid hv9
            clear hv5 hv7 hv9
            have t0 := blk_cell hh 0
            have s0 := blk_free hh 0
            have t1 := blk_cell hh 1
            have s1 := blk_free hh 1
            have t2 := blk_cell hh 2
            have s2 := blk_free hh 2
            have t3 := blk_cell hh 3
            have s3 := blk_free hh 3
            have t4 := blk_cell hh 4
            have s4 := blk_free hh 4
            have t5 := blk_cell hh 5
            have s5 := blk_free hh 5
            have t6 := blk_cell hh 6
            have s6 := blk_free hh 6
            have h6 := set7 w1 ge _ _ _ _ _ _ _ (.slice none 0 0) (.slice (some ⟨g, 0, none⟩) 1 1) (.int .i64 ((k : Int) + 1)) (.int .u64 ((fl : Int))) (.int .u64 0) (.int .u64 0) (.int .u64 0) _ hh
            unfold EV at hKK ⊢
            go_simp
            refine hKK.out undef _ ⟨g, ge, by rw [Rg.upd_ne _ _ (by decide)]; exact HV5.out, hBg, by rw [Rg.upd_ne _ _ (by decide)]; exact HV9.out, h6.1⟩ (Keeps.weak h6.2 fun y hy => ⟨18, List.mem_singleton.2 rfl, ?_⟩) (fun y hy => ⟨?_, .inr ⟨18, List.mem_singleton.2 rfl, ?_⟩⟩)
            · show Rg.ob (vs 18) y
              rw [HV9.out]; exact hy.symm
            · have hy' : Rg.ob (vs 18) y := by simpa only [Rg.upd_ne _ _ (show 18 ≠ 19 by decide)] using hy
              rw [HV9.out] at hy'
              have hgy : ge = y := hy'
              rw [← hgy]; exact (Array.getElem?_eq_some_iff.1 h6.1).1
            · have hy' : Rg.ob (vs 18) y := by simpa only [Rg.upd_ne _ _ (show 18 ≠ 19 by decide)] using hy
              exact hy'
          simp only [Act.put, List.setIfInBounds_toArray, List.set_cons_zero, List.set_cons_succ, Nat.reduceAdd]
          apply Rg.RK.fin [16, 19]
          intro vs w8 hK hS hf
          obtain ⟨h16, h19, -⟩ := hf
          refine hQN.out _ _ ?_
          clear hQN
          obtain ⟨gf, hgfB, hv16, hgf⟩ := h16
          obtain ⟨gf2, ge, hv16b, hgeB, hv18, hge⟩ := h19
          have hfe : gf = gf2 := by
            have h := hv16.symm.trans hv16b
            injection h with h _ _
            injection h with h
            injection h
          subst hfe
          (try dsimp only)
          rw [hv18]
          have hu8 := keeps_up hK
          clear hK hS hv16 hv16b hv18
          have hv8 := hv.up hu8
          have hcx := (hcell w8 hu8).2
          clear hfl hlv hflw hcell v1 v2
          obtain ⟨sb, hsb, hsb2⟩ := i64_and_le (x / 256) 1 (by omega)
          replace hsb : bits .and .i64 (x / 256) 1 = (sb : Int) := hsb
          go_upto_region 9 with fail
          go_cut [62] from 24 to 100 (fun c wc => ∃ d : Bool, c = .bool d ∧ wc = w8 ∧ (d = true → 2 < k))
          case first =>
            by_cases h2 : 2 < k
            · have i3 : (2 : Int) < (k : Int) := by omega
              by_cases hs1 : sb = 1
              · have hs2 : ((sb : Int) == 1) = true := by rw [beq_iff_eq]; omega
                go_wp2_with fail
                go_meet
                case rel => exact ⟨true, rfl, rfl, fun _ => h2⟩
              · have hs2 : ((sb : Int) == 1) = false := by rw [beq_eq_false_iff_ne]; omega
                go_wp2_with fail
                go_meet
                case rel => exact ⟨false, rfl, rfl, fun h => by cases h⟩
            · have i3 : ¬ (2 : Int) < (k : Int) := by omega
              go_wp2_with fail
              go_meet
              case rel => exact ⟨false, rfl, rfl, fun h => by cases h⟩
          obtain ⟨d, rfl, rfl, hd2⟩ := hcut
          go_upto_if 62 with (fail)
          go_cut [] from 24 to 100 (fun wd => ∃ (D : Option Addr) (dn : Nat), EE wr ge gf D dn k fl lv (ecD d v) wd)
          case first =>
            cases d with
            | false =>
              go_wp2_with fail
              go_meet
              case rel => exact ⟨none, 0, hu8, hge, Rd.empty, rd_file hgf, Nat.zero_le _⟩
            | true =>
              have h2 := hd2 rfl
              obtain ⟨a, r, hl⟩ : ∃ a r, v.2.1 = a :: r := by
                have h := hec.out.ge
                cases hvl : v.2.1 with
                | nil => rw [hvl] at h; simp at h; omega
                | cons a r => exact ⟨a, r, rfl⟩
              have hn6 : 0 < n6 := by have := hv8.rd.flen; rw [hl] at this; simp at this; omega
              obtain ⟨bf, of, rfl, -, hcf⟩ := hv8.rd.2 hn6
              rw [hl] at hcf
              have hcf1 := hcf 1 (.int .i64 a.2) rfl
              have i4 : (0 : Int) < (n6 : Int) := by omega
              obtain ⟨-, t1, -, -, -, -⟩ := vw_c6 hv8.blk
              have hge2 := blk_upE ((Up.refl wc).alloc (.cells #[.int .i64 a.2] 3)) hge
              have e0 := blk_cell hge2 0
              have s0 := blk_free hge2 0
              have e1 := blk_cell hge 0
              have s1 := blk_free hge 0
              have hd : ecD true v = [a.2] := by unfold ecD; rw [if_pos rfl, hl]; rfl
              have HD := Lib.hid hd
              have HE := ee_drop (x := a.2) hu8 hgeB hge hgf
              clear hd hl hcf
              go_wp2_with fail
              go_meet
              case rel =>
                rw [HD.out]
                exact ⟨_, _, HE⟩
          obtain ⟨D, dn, hE⟩ := hcut
          clear hu8 hv8 hcx hge hgf hsb hsb2 hgfB
          have hv9 := hv.up hE.up
          obtain ⟨u, hap, hec2, hmay⟩ := hec.out.step h12 d (fun hd => by have := hec.out.ge; have := hd2 hd; omega) lv fl hlv2 hfl2
          have HAP := Lib.hid hap
          have HEC2 := Lib.hid hec2
          have HMAY := Lib.hid hmay
          have hn6 := hv9.le
          have hdn1 := hE.dn1
          clear hap hec2 hmay
          obtain ⟨t0, t1, t2, t3, t4, t5⟩ := vw_c6 hv9.blk
          have e0 := blk_cell hE.hge 0
          have e1 := blk_cell hE.hge 1
          have e2 := blk_cell hE.hge 2
          have e3 := blk_cell hE.hge 3
          have e4 := blk_cell hE.hge 4
          have e5 := blk_cell hE.hge 5
          have e6 := blk_cell hE.hge 6
          go_wp2_with fail
          clear t0 t1 t2 t3 t4 t5 e0 e1 e2 e3 e4 e5 e6
          refine (apply_any v.1 A6 n6 c6 v.2.1 v.2.2.1 v.2.2.2.1 v.2.2.2.2.1 v.2.2.2.2.2 D dn dn (ecD d v) (some ⟨gf, 0, none⟩) 1 1 [((lv : Int), (k : Int) + 10)] ((k : Int) + 1) fl 0 0 0 _ hv9.rd (by omega) hE.rd (by omega) hE.ra (by omega)).mono ?_
          intro e w10 hp
          rw [HAP.out] at hp
          obtain ⟨R, rn, rfl, hrd10, hu10, hfr10⟩ := hp
          have hrn : rn ≤ 40 := by have := hrd10.flen; have := HEC2.out.le; omega
          have hE10 := hE.toUp hu10
          have hE11 := hE10.toUp ((Up.refl w10).alloc (.cells (vcs u R rn rn) 27))
          have hblk : (w10.alloc (.cells (vcs u R rn rn) 27)).heap[w10.heap.size]? = some (.cells (vcs u R rn rn) 27 (0, 0)) := heap_alloc_new _ _
          have hrd11 := hrd10.up ((Up.refl w10).alloc (.cells (vcs u R rn rn) 27))
          have hsz11 : w10.heap.size < (w10.alloc (.cells (vcs u R rn rn) 27)).heap.size := by rw [World.size_alloc]; omega
          have hsz10 := hu10.size
          have hszE := hE.up.size
          have hnew : w10.heap.size ≤ w10.heap.size := Nat.le_refl _
          clear hE10 hE hu10 hv9
          go_upto_region 12 with fail
          rw [show (#[.int .i64 u.1, .slice R rn rn, .int .u64 (u.2.2.1 : Int), .int .u64 (u.2.2.2.1 : Int), .int .u64 (u.2.2.2.2.1 : Int), .int .u64 (u.2.2.2.2.2 : Int)] : Array Value) = vcs u R rn rn from rfl]
          generalize w10.alloc (.cells (vcs u R rn rn) 27) = w11 at *
          generalize hg11 : w10.heap.size = g11 at *
          have e0 := blk_cell hE11.hge 0
          have e1 := blk_cell hE11.hge 1
          have e2 := blk_cell hE11.hge 2
          have e3 := blk_cell hE11.hge 3
          have e4 := blk_cell hE11.hge 4
          have e5 := blk_cell hE11.hge 5
          have e6 := blk_cell hE11.hge 6
          clear hg11 hrd10
          go_wp2_with fail
          clear e0 e1 e2 e3 e4 e5 e6
          refine (eput_any none 0 0 [] D dn dn (ecD d v) (some ⟨gf, 0, none⟩) 1 1 [((lv : Int), (k : Int) + 10)] ((k : Int) + 1) fl 0 0 0 _ Rd.empty (by omega) hE11.rd (by omega) hE11.ra (by omega)).mono ?_
          rintro e w12 (⟨hm, -, -⟩ | ⟨-, X, xn, xc, rfl, hox, hu12⟩)
          · exact absurd hm (by rw [HMAY.out]; decide)
          rw [List.nil_append] at hox
          have hFl : (frameB 6 (editB (ecD d v) [((lv : Int), (k : Int) + 10)] ((k : Int) + 1) fl 0 0 0)).length ≤ 1712 := by have := editB_le HMAY.out; rw [frameB_len]; omega
          have hci2 : Hid (CutI (S ++ frameB 6 (editB (ecD d v) [((lv : Int), (k : Int) + 10)] ((k : Int) + 1) fl 0 0 0)) (ps.map PV.v ++ [u]) (es ++ [S.length + (frameB 6 (editB (ecD d v) [((lv : Int), (k : Int) + 10)] ((k : Int) + 1) fl 0 0 0)).length]) u (k + 1)) := Lib.hid (hci.out.snoc HMAY.out HAP.out)
          generalize frameB 6 (editB (ecD d v) [((lv : Int), (k : Int) + 10)] ((k : Int) + 1) fl 0 0 0) = F at *
          have hur := hE11.up.trans hu12
          have hv12 := hv.up hur
          have hvi12 := hvi.up hur
          have hup12 := hup.trans hur
          have hbx12 := blk_upE hu12 hblk
          have hrd12 := hrd11.up hu12
          have hgvr : gv < wr.heap.size := (Array.getElem?_eq_some_iff.1 hv.blk).1
          have hn1 : g11 ≠ gv := by omega
          obtain ⟨q0, q1, q2, q3, q4, q5⟩ := vw_c6 hbx12
          obtain ⟨t0, t1, t2, t3, t4, t5⟩ := vw_c6 hv12.blk
          have s0 := blk_free hv12.blk 0
          have s1 := blk_free hv12.blk 1
          have s2 := blk_free hv12.blk 2
          have s3 := blk_free hv12.blk 3
          have s4 := blk_free hv12.blk 4
          have s5 := blk_free hv12.blk 5
          have h6 := set6 w12 gv _ _ _ _ _ _ (.int .i64 u.1) (.slice R rn rn) (.int .u64 (u.2.2.1 : Int)) (.int .u64 (u.2.2.2.1 : Int)) (.int .u64 (u.2.2.2.2.1 : Int)) (.int .u64 (u.2.2.2.2.2 : Int)) _ hv12.blk
          have H6 := Lib.hid h6
          clear h6 hE11 hblk hrd11
          go_upto_region 16 with fail
          have h6 := H6.out
          clear q0 q1 q2 q3 q4 q5 t0 t1 t2 t3 t4 t5 s0 s1 s2 s3 s4 s5 H6
          generalize ((((((w12.setCell ⟨gv, 0, none⟩ (.int .i64 u.1)).setCell ⟨gv, 1, none⟩ (.slice R rn rn)).setCell ⟨gv, 2, none⟩ (.int .u64 (u.2.2.1 : Int))).setCell ⟨gv, 3, none⟩ (.int .u64 (u.2.2.2.1 : Int))).setCell ⟨gv, 4, none⟩ (.int .u64 (u.2.2.2.2.1 : Int))).setCell ⟨gv, 5, none⟩ (.int .u64 (u.2.2.2.2.2 : Int))) = w13 at *
          have hRne : ∀ a, R = some a → gv < a.block ∧ a.block < w13.heap.size ∧ wr.heap.size ≤ a.block := fun a ha => by
            have := hfr10 a ha
            have := hu12.size
            have := h6.2.size
            omega
          have hrd13 := hrd12.keepsNe (Nat.le_refl _) (g := gv) (fun a ha => by have := hRne a ha; omega) h6.2
          have hv13 : VW gv u R rn rn w13 := ⟨h6.1, hrd13, Nat.le_refl _, hrn, fun a ha => (hRne a ha).1⟩
          have hvi13 := hvi12.keepsG hB h6.2
          have hup13 := keepsUp hup12 hgvw h6.2
          have hox13 : OwnB w13 w11.heap.size X xn xc F := own_keeps6 hox (by omega) h6.2
          have hVS := hvi.ltV
          have hES := hvi.ltE
          have hne13 : ∀ a, R = some a → gv < a.block ∧ a.block < w13.heap.size ∧ (∀ y, VS = some y → y.block ≠ a.block) ∧ ∀ y, ES = some y → y.block ≠ a.block := fun a ha => by
            have h1 := hRne a ha
            exact ⟨h1.1, h1.2.1, fun y hy => by have := hVS y hy; omega, fun y hy => by have := hES y hy; omega⟩
          have hgb13 : gb < w13.heap.size := by
            obtain ⟨g, -, h1, h2⟩ := own_some hvi13.own (by omega)
            omega
          have hcv : (convert 43 9 (.slice X xn xc)).run Try.prog w13 = .ok (.string (tx F)) w13 := run_str xc hox13.rd
          have hcat : tx S ++ tx F = tx (cc S F) := tx_append' _ _
          have hnz : ¬ (9223372036854775807 < (tx S).size + (tx F).size) := by rw [tx_size, tx_size]; omega
          clear hv12 hvi12 hup12 hbx12 hrd12 hox hur hu12 hfr10 hVS hES
          go_upto_region 17 with fail
          clear hcv hcat hnz hox13
          have hci3 : Hid (CutI (cc S F) (ps.map PV.v ++ [u]) (es ++ [(cc S F).length]) u (k + 1)) := by rw [cc_length]; exact hci2
          have hS2 : (cc S F).length ≤ 1800 * (k + 1) := by rw [cc_length]; omega
          clear hci2 hFl
          obtain ⟨t0, t1, t2, t3, t4, t5⟩ := vw_c6 hv13.blk
          have hbox : Rd (w13.alloc (.cells #[.int .i64 u.1, .slice R rn rn, .int .u64 (u.2.2.1 : Int), .int .u64 (u.2.2.2.1 : Int), .int .u64 (u.2.2.2.2.1 : Int), .int .u64 (u.2.2.2.2.2 : Int)] 27)) (w13.alloc (.cells #[.int .i64 u.1, .slice R rn rn, .int .u64 (u.2.2.1 : Int), .int .u64 (u.2.2.2.1 : Int), .int .u64 (u.2.2.2.2.1 : Int), .int .u64 (u.2.2.2.2.2 : Int)] 27)).heap.size 6 (some ⟨w13.heap.size, 0, none⟩) 1 (PV.cs ⟨u, R, rn, rn⟩) := Rd.made w13 #[.int .i64 u.1, .slice R rn rn, .int .u64 (u.2.2.1 : Int), .int .u64 (u.2.2.2.1 : Int), .int .u64 (u.2.2.2.2.1 : Int), .int .u64 (u.2.2.2.2.2 : Int)] 27 (sz := 6) (n := 1) rfl
          have hpc : ∀ y ∈ PV.cs ⟨u, R, rn, rn⟩, y.oneCell' = true := fun y hy => pvs_one [⟨u, R, rn, rn⟩] y (by simpa [pvs] using hy)
          have hvi13b := hvi13.up ((Up.refl w13).alloc (.cells #[.int .i64 u.1, .slice R rn rn, .int .u64 (u.2.2.1 : Int), .int .u64 (u.2.2.2.1 : Int), .int .u64 (u.2.2.2.2.1 : Int), .int .u64 (u.2.2.2.2.2 : Int)] 27))
          have hv13b := hv13.up ((Up.refl w13).alloc (.cells #[.int .i64 u.1, .slice R rn rn, .int .u64 (u.2.2.1 : Int), .int .u64 (u.2.2.2.1 : Int), .int .u64 (u.2.2.2.2.1 : Int), .int .u64 (u.2.2.2.2.2 : Int)] 27))
          have hup13b := hup13.trans ((Up.refl w13).alloc (.cells #[.int .i64 u.1, .slice R rn rn, .int .u64 (u.2.2.1 : Int), .int .u64 (u.2.2.2.1 : Int), .int .u64 (u.2.2.2.2.1 : Int), .int .u64 (u.2.2.2.2.2 : Int)] 27))
          clear hrd13 hvi13 hv13 h6
          go_upto_region 18 with (at_builtin; refine wpList_append_rd _ viewsT (news := PV.cs ⟨u, R, rn, rn⟩) hvi13b.own hbox hpc (by omega) (by omega) (by rw [World.size_alloc]; omega) rfl rfl rfl rfl ?_; intro v3 w14 ho14 hg14 hat14; obtain ⟨V2, vc2, rfl⟩ := own_form ho14)
          clear t0 t1 t2 t3 t4 t5
          have hsz13 : w13.heap.size < (w13.alloc (.cells #[.int .i64 u.1, .slice R rn rn, .int .u64 (u.2.2.1 : Int), .int .u64 (u.2.2.2.1 : Int), .int .u64 (u.2.2.2.2.1 : Int), .int .u64 (u.2.2.2.2.2 : Int)] 27)).heap.size := by rw [World.size_alloc]; omega
          clear hbox hpc hup13
          generalize w13.alloc (.cells #[.int .i64 u.1, .slice R rn rn, .int .u64 (u.2.2.1 : Int), .int .u64 (u.2.2.2.1 : Int), .int .u64 (u.2.2.2.2.1 : Int), .int .u64 (u.2.2.2.2.2 : Int)] 27) = wb at *
          have hvi14 := hvi13b.snocV (p := ⟨u, R, rn, rn⟩) ho14 hg14 hat14 hv13b.rd hrn (Nat.le_refl _) (fun a ha => by
            obtain ⟨h1, h2, h3⟩ := hne13 a ha
            exact ⟨h1, by omega, h3⟩)
          have hv14 := hv13b.grown hvi13b.own hB hg14 (fun a ha h2 => by
            obtain ⟨y, hy, e⟩ := ob_slice h2
            exact (hne13 a ha).2.2.1 y hy e)
          have hup14 : Up w w14 := hup13b.grown hg14 (fun g hg => by have := (hvi13b.own.lt g hg).1; omega)
          have hgb14 : gb < w14.heap.size := by have := hg14.size; omega
          have hne14 : ∀ a, R = some a → ∀ y, ES = some y → y.block ≠ a.block := fun a ha => (hne13 a ha).2.2.2
          clear hvi13b hv13b hup13b ho14 hg14 hat14 hne13 hsz13 hgb13 hRne
          go_wp2_with (at_builtin; refine wpList_append_rd _ intsT (news := nvi [(cc S F).length]) (World.ownsRow.alloc hvi14.ends _) (Rd.box _ _ _) (nvi_one _) (by omega) (by omega) (by rw [World.size_alloc]; omega) rfl rfl rfl rfl ?_; intro v3 w15 ho15 hg15 hat15; obtain ⟨E2, ec2, rfl⟩ := own_form ho15)
          have hua : Up w14 (w14.alloc (.cells #[.int .i64 ((tx (cc S F)).size : Int)] 3)) := (Up.refl w14).alloc _
          have hvi14b := hvi14.up hua
          have hv14b := hv14.up hua
          have hup14b := hup14.trans hua
          clear hua
          generalize w14.alloc (.cells #[.int .i64 ((tx (cc S F)).size : Int)] 3) = wb at *
          have hvi15 := hvi14b.snocE ho15 hg15 hat15
          have hv15 := hv14b.grown hvi14b.ends hB hg15 (fun a ha h2 => by
            obtain ⟨y, hy, e⟩ := ob_slice h2
            exact hne14 a ha y hy e)
          have hup15 : Up w w15 := hup14b.grown hg15 (fun g hg => by have := (hvi14b.ends.lt g hg).1; omega)
          have hmap : (ps ++ [(⟨u, R, rn, rn⟩ : PV)]).map PV.v = ps.map PV.v ++ [u] := by simp
          go_roundw
          case rel => exact ⟨k + 1, ps ++ [⟨u, R, rn, rn⟩], es ++ [(cc S F).length], V2, E2, vc2, ec2, cc S F, u, R, rn, rn, by go_num, rfl, rfl, rfl, by omega, by omega, hup15, hv15, hvi15, by rw [hmap]; exact hci3, HEC2, hS2⟩
          case measure => simp [intOf]; omega
        · kernel_rfl
      · have i1 : (k : Int) < (n : Int) := by omega
        have i2 : ¬ (k : Int) < 12 := by omega
        obtain ⟨C1, hC, hC2⟩ := i64_and_le cut 65535 (by omega)
        replace hC : bits .and .i64 cut 65535 = (C1 : Int) := hC
        obtain ⟨N, hN⟩ : ∃ N, N = S.length := ⟨_, rfl⟩
        have hts : (tx S).size = N := by rw [tx_size, hN]
        have hN2 : N ≤ 21600 := by omega
        obtain ⟨K, hK, hKN⟩ : ∃ K : Nat, (C1 : Int) % ((N : Int) + 1) = (K : Int) ∧ K ≤ N := ⟨C1 % (N + 1), (by rw [Int.natCast_emod]; rfl), by have := Nat.mod_lt C1 (show 0 < N + 1 by omega); omega⟩
        have hM0 : ¬ ((N : Int) + 1 = 0) := by omega
        have hK2 : (C1 : Int).tmod ((N : Int) + 1) = (K : Int) := by rw [Int.tmod_eq_emod_of_nonneg (by omega)]; exact hK
        have HN := Lib.hid hN
        obtain ⟨gE, rfl, hcE⟩ := own_cellsX hvi.ends (by omega)
        obtain ⟨gV, rfl, hcV⟩ := own_cellsX hvi.own (by omega)
        have HCE := Lib.hid hcE
        have HCV := Lib.hid hcV
        have hK3 : (K : Int) ≤ (N : Int) := by omega
        clear hN hcE hcV hC2
        go_wp2_with fail
        go_loopw [16] (fun jv wr2 => ∃ j e : Nat, jv = .int .i64 (j : Int) ∧ j ≤ k ∧ Hid (es[j]? = some e) ∧ e ≤ K ∧ Up wr wr2) (fun jv _ => k - (intOf jv).toNat)
        case atStart => exact ⟨0, 0, rfl, Nat.zero_le _, hci.out.zero, Nat.zero_le _, Up.refl _⟩
        case round =>
          obtain ⟨j, e, rfl, hj, he, heK, hu2⟩ := hrel
          by_cases hjk : j < k
          · obtain ⟨e', he'⟩ : ∃ e', es[j + 1]? = some e' := ⟨_, List.getElem?_eq_getElem (by have := hvi.em; omega)⟩
            have hce1 := HCE.out (j + 1) (.int .i64 (e' : Int)) (by rw [nvi, List.getElem?_map, he']; rfl) _ hu2
            have j1 : (j : Int) + 1 < (k : Int) + 1 := by omega
            have j2 : j + 1 < k + 1 := by omega
            have HE2 := Lib.hid he'
            clear he'
            by_cases hle : e' ≤ K
            · have l1 : (e' : Int) ≤ (K : Int) := by omega
              go_wp2_with fail
              go_roundw
              case rel => exact ⟨j + 1, e', by go_num, by omega, HE2, hle, hu2⟩
              case measure => simp [intOf]; omega
            · have l1 : ¬ (e' : Int) ≤ (K : Int) := by omega
              have hnext : ∀ x, es[j + 1]? = some x → K < x := fun x hx => by
                rw [HE2.out] at hx
                injection hx with hx
                omega
              clear j1
              have j1 : (j : Int) + 1 < (k : Int) + 1 := by omega
              obtain ⟨p, hp⟩ : ∃ p, ps[j]? = some p := ⟨_, List.getElem?_eq_getElem (by have := hvi.pn; omega)⟩
              have hpr := hvi.rd p (List.mem_of_getElem? hp)
              have hrep := hci.out.at_ K j e p.v (by have := HN.out; omega) he.out (by rw [List.getElem?_map, hp]; rfl) heK hnext
              obtain ⟨c5, w5, hconv, hcap, hbeg, hu5⟩ := conv_beg wr (S.take K)
              have hext : (tx S).extract 0 K = tx (S.take K) := tx_take S K
              have hKI : (K : Int) ≤ (N : Int) := by omega
              have hTl : (S.take K).length ≤ 21600 := by rw [List.length_take]; omega
              generalize S.take K = T at *
              have HREP := Lib.hid hrep
              have HP := Lib.hid hp
              have hrd5 := hbeg.rd
              have hgz : wr.heap.size = wr.heap.size := rfl
              clear hrep hp hnext hbeg
              go_wp2_with fail
              clear hconv hext
              refine (replay_any (some ⟨wr.heap.size, 0, none⟩) T.length c5 T _ hrd5 (by omega) hcap).mono ?_
              intro e6 w6 hp6
              rw [HREP.out] at hp6
              by_cases hj0 : j = 0
              · rw [if_pos hj0] at hp6
                obtain ⟨rfl, hu6⟩ := hp6
                have z1 : ((j : Int) == 0) = true := by rw [beq_iff_eq]; omega
                have hSV : sameV v0.1 v0.2.1 v0.2.2.1 v0.2.2.2.1 v0.2.2.2.2.1 v0.2.2.2.2.2 v0.1 v0.2.1 v0.2.2.1 v0.2.2.2.1 v0.2.2.2.2.1 v0.2.2.2.2.2 = true := by decide
                have HSV := Lib.hid hSV
                have hu7 : Up w6 (w6.alloc (.cells #[.int .i64 0, .slice none 0 0, .int .u64 0, .int .u64 0, .int .u64 0, .int .u64 0] 27)) := (Up.refl w6).alloc _
                have hb7 : (w6.alloc (.cells #[.int .i64 0, .slice none 0 0, .int .u64 0, .int .u64 0, .int .u64 0, .int .u64 0] 27)).heap[w6.heap.size]? = some (.cells (vcs v0 none 0 0) 27 (0, 0)) := heap_alloc_new _ _
                obtain ⟨q0, q1, q2, q3, q4, q5⟩ := vw_c6 hb7
                have hup7 := (hup.trans hu2).trans (hu5.trans (hu6.trans hu7))
                clear hSV hb7 hu7 hj0 j1 hj
                go_wp2_with fail
                clear q0 q1 q2 q3 q4 q5
                refine (sameView_any v0.1 none 0 0 v0.2.1 v0.2.2.1 v0.2.2.2.1 v0.2.2.2.2.1 v0.2.2.2.2.2 v0.1 none 0 0 v0.2.1 v0.2.2.1 v0.2.2.2.1 v0.2.2.2.2.1 v0.2.2.2.2.2 _ Rd.empty Rd.empty (by omega) (by omega)).mono ?_
                rintro e11 w8 ⟨rfl, hu8⟩
                rw [HSV.out]
                go_wp2_with (go_at_call 11; with_reducible refine (awake15_any _).mono ?_; rintro e w9 ⟨rfl, hu9⟩)
                go_ret
                exact ⟨rfl, (hup7.trans hu8).trans hu9⟩
              · rw [if_neg hj0] at hp6
                obtain ⟨R, rn, rc, rfl, hrd6, hrc, hrn, hu6⟩ := hp6
                (try dsimp only at hrd6)
                unfold vcs
                (try dsimp only)
                have z1 : ((j : Int) == 0) = false := by rw [beq_eq_false_iff_ne]; omega
                have hu7 : Up w6 (w6.alloc (.cells #[.int .i64 p.v.1, .slice R rn rc, .int .u64 (p.v.2.2.1 : Int), .int .u64 (p.v.2.2.2.1 : Int), .int .u64 (p.v.2.2.2.2.1 : Int), .int .u64 (p.v.2.2.2.2.2 : Int)] 27)) := (Up.refl w6).alloc _
                have hb7 : (w6.alloc (.cells #[.int .i64 p.v.1, .slice R rn rc, .int .u64 (p.v.2.2.1 : Int), .int .u64 (p.v.2.2.2.1 : Int), .int .u64 (p.v.2.2.2.2.1 : Int), .int .u64 (p.v.2.2.2.2.2 : Int)] 27)).heap[w6.heap.size]? = some (.cells (vcs p.v R rn rc) 27 (0, 0)) := heap_alloc_new _ _
                have hrd7 := hrd6.up hu7
                have hu27 := hu2.trans (hu5.trans (hu6.trans hu7))
                have hup7 := hup.trans hu27
                have hpr7 := hpr.1.up hu27
                have hce := HCE.out j (.int .i64 (e : Int)) (by rw [nvi, List.getElem?_map, he.out]; rfl)
                have hcv := fun i hi => HCV.out (j * 6 + i) _ ((pvs_at ps HP.out i hi).trans (List.getElem?_eq_getElem (show i < p.cs.length from hi)))
                have k0 := hcv 0 (by omega)
                have k1 := hcv 1 (by omega)
                have k2 := hcv 2 (by omega)
                have k3 := hcv 3 (by omega)
                have k4 := hcv 4 (by omega)
                have k5 := hcv 5 (by omega)
                simp only [PV.cs, List.getElem_cons_zero, List.getElem_cons_succ, Nat.add_zero] at k0 k1 k2 k3 k4 k5
                clear hcv
                go_upto_region 26 with fail
                generalize w6.heap.size = g7 at *
                generalize w6.alloc (.cells #[.int .i64 p.v.1, .slice R rn rc, .int .u64 (p.v.2.2.1 : Int), .int .u64 (p.v.2.2.2.1 : Int), .int .u64 (p.v.2.2.2.2.1 : Int), .int .u64 (p.v.2.2.2.2.2 : Int)] 27) = w7 at *
                have hS : ∀ W, Up w7 W → Up w7 W ∧ C6 W g7 p.v R rn rc ∧ W.cell? ⟨gE, j, none⟩ = some (.int .i64 (e : Int)) ∧ W.cell? ⟨gV, j * 6, none⟩ = some (.int .i64 p.v.1) ∧ W.cell? ⟨gV, j * 6 + 1, none⟩ = some (.slice p.R p.n p.c) ∧ W.cell? ⟨gV, j * 6 + 2, none⟩ = some (.int .u64 (p.v.2.2.1 : Int)) ∧ W.cell? ⟨gV, j * 6 + 3, none⟩ = some (.int .u64 (p.v.2.2.2.1 : Int)) ∧ W.cell? ⟨gV, j * 6 + 4, none⟩ = some (.int .u64 (p.v.2.2.2.2.1 : Int)) ∧ W.cell? ⟨gV, j * 6 + 5, none⟩ = some (.int .u64 (p.v.2.2.2.2.2 : Int)) := fun W h =>
                  ⟨h, vw_c6 (blk_upE h hb7), hce W (hu27.trans h), k0 W (hu27.trans h), k1 W (hu27.trans h), k2 W (hu27.trans h), k3 W (hu27.trans h), k4 W (hu27.trans h), k5 W (hu27.trans h)⟩
                have hsv := fun W (h : Up w7 W) => sameView_any p.v.1 R rn rc p.v.2.1 p.v.2.2.1 p.v.2.2.2.1 p.v.2.2.2.2.1 p.v.2.2.2.2.2 p.v.1 p.R p.n p.c p.v.2.1 p.v.2.2.1 p.v.2.2.2.1 p.v.2.2.2.2.1 p.v.2.2.2.2.2 W (hrd7.up h) (hpr7.up h) (by omega) (by omega)
                rw [show sameV p.v.1 p.v.2.1 p.v.2.2.1 p.v.2.2.2.1 p.v.2.2.2.2.1 p.v.2.2.2.2.2 p.v.1 p.v.2.1 p.v.2.2.1 p.v.2.2.2.1 p.v.2.2.2.2.1 p.v.2.2.2.2.2 = true from by unfold sameV; simp] at hsv
                have haw := fun W (h : Up w7 W) => awake15_any W
                have j3 : (j : Int) < (k : Int) + 1 := by omega
                have j4 : j < k + 1 := by omega
                unfold C6 at hS
                clear hce k0 k1 k2 k3 k4 k5 hb7 hrd7 hpr7 hrd6 hrd5
                apply Rg.region_up _ (by kernel_rfl) (by kernel_rfl) hS
                · intro QN hQN
                  iterate 3 (apply Rg.RK.ok; (· intro vs w1 hS; go_simp; with_reducible rfl); (· rfl); simp only [Act.put, List.setIfInBounds_toArray, List.set_cons_zero, List.set_cons_succ, Nat.reduceAdd])
                  iterate 6 (apply Rg.RK.gok (t := 150); (· intro vs w1 hS; go_simp; with_reducible rfl); (· rfl); (· intro vs; rfl); simp only [Act.put, List.setIfInBounds_toArray, List.set_cons_zero, List.set_cons_succ, Nat.reduceAdd])
                  iterate 2 (apply Rg.RK.ok; (· intro vs w1 hS; go_simp; with_reducible rfl); (· rfl); simp only [Act.put, List.setIfInBounds_toArray, List.set_cons_zero, List.set_cons_succ, Nat.reduceAdd])
                  iterate 5 (apply Rg.RK.gok (t := 158); (· intro vs w1 hS; go_simp; with_reducible rfl); (· rfl); (· intro vs; rfl); simp only [Act.put, List.setIfInBounds_toArray, List.set_cons_zero, List.set_cons_succ, Nat.reduceAdd])
                  apply Rg.RK.gcall (t := 158) (.bool true) []
                  · rfl
                  · intro vs; rfl
                  · intro vs w1 hK hS _ K hKK
                    go_simp
                    refine (hsv _ hS.1).mono ?_
                    rintro e w2 ⟨rfl, hu2⟩
                    exact hKK.out _ hu2
                  simp only [Act.put, List.setIfInBounds_toArray, List.set_cons_zero, List.set_cons_succ, Nat.reduceAdd]
                  iterate 2 (apply Rg.RK.ok; (· intro vs w1 hS; go_simp; with_reducible rfl); (· rfl); simp only [Act.put, List.setIfInBounds_toArray, List.set_cons_zero, List.set_cons_succ, Nat.reduceAdd])
                  apply Rg.RK.gcall (t := 166) (.bool true) []
                  · rfl
                  · intro vs; rfl
                  · intro vs w1 hK hS _ K hKK
                    go_simp
                    refine (haw _ hS.1).mono ?_
                    rintro e w2 ⟨rfl, hu2⟩
                    exact hKK.out _ hu2
                  simp only [Act.put, List.setIfInBounds_toArray, List.set_cons_zero, List.set_cons_succ, Nat.reduceAdd]
                  iterate 2 (apply Rg.RK.ok; (· intro vs w1 hS; go_simp; with_reducible rfl); (· rfl); simp only [Act.put, List.setIfInBounds_toArray, List.set_cons_zero, List.set_cons_succ, Nat.reduceAdd])
                  apply Rg.RK.fin []
                  intro vs wk hK hS hf
                  refine hQN.out _ _ ?_
                  clear hQN
                  have huk := keeps_up hK
                  clear hS hK hf hsv haw
                  go_wp2_with fail
                  go_ret
                  exact ⟨rfl, hup7.trans huk⟩
                · kernel_rfl
          · have j1 : ¬ (j : Int) + 1 < (k : Int) + 1 := by omega
            have hnext : ∀ x, es[j + 1]? = some x → K < x := fun x hx => by
              have := (List.getElem?_eq_some_iff.1 hx).1
              have := hvi.em
              omega
            obtain ⟨p, hp⟩ : ∃ p, ps[j]? = some p := ⟨_, List.getElem?_eq_getElem (by have := hvi.pn; omega)⟩
            have hpr := hvi.rd p (List.mem_of_getElem? hp)
            have hrep := hci.out.at_ K j e p.v (by have := HN.out; omega) he.out (by rw [List.getElem?_map, hp]; rfl) heK hnext
            obtain ⟨c5, w5, hconv, hcap, hbeg, hu5⟩ := conv_beg wr (S.take K)
            have hext : (tx S).extract 0 K = tx (S.take K) := tx_take S K
            have hKI : (K : Int) ≤ (N : Int) := by omega
            have hTl : (S.take K).length ≤ 21600 := by rw [List.length_take]; omega
            generalize S.take K = T at *
            have HREP := Lib.hid hrep
            have HP := Lib.hid hp
            have hrd5 := hbeg.rd
            have hgz : wr.heap.size = wr.heap.size := rfl
            clear hrep hp hnext hbeg
            go_wp2_with fail
            clear hconv hext
            refine (replay_any (some ⟨wr.heap.size, 0, none⟩) T.length c5 T _ hrd5 (by omega) hcap).mono ?_
            intro e6 w6 hp6
            rw [HREP.out] at hp6
            by_cases hj0 : j = 0
            · rw [if_pos hj0] at hp6
              obtain ⟨rfl, hu6⟩ := hp6
              have z1 : ((j : Int) == 0) = true := by rw [beq_iff_eq]; omega
              have hSV : sameV v0.1 v0.2.1 v0.2.2.1 v0.2.2.2.1 v0.2.2.2.2.1 v0.2.2.2.2.2 v0.1 v0.2.1 v0.2.2.1 v0.2.2.2.1 v0.2.2.2.2.1 v0.2.2.2.2.2 = true := by decide
              have HSV := Lib.hid hSV
              have hu7 : Up w6 (w6.alloc (.cells #[.int .i64 0, .slice none 0 0, .int .u64 0, .int .u64 0, .int .u64 0, .int .u64 0] 27)) := (Up.refl w6).alloc _
              have hb7 : (w6.alloc (.cells #[.int .i64 0, .slice none 0 0, .int .u64 0, .int .u64 0, .int .u64 0, .int .u64 0] 27)).heap[w6.heap.size]? = some (.cells (vcs v0 none 0 0) 27 (0, 0)) := heap_alloc_new _ _
              obtain ⟨q0, q1, q2, q3, q4, q5⟩ := vw_c6 hb7
              have hup7 := (hup.trans hu2).trans (hu5.trans (hu6.trans hu7))
              clear hSV hb7 hu7 hj0 j1 hj
              go_wp2_with fail
              clear q0 q1 q2 q3 q4 q5
              refine (sameView_any v0.1 none 0 0 v0.2.1 v0.2.2.1 v0.2.2.2.1 v0.2.2.2.2.1 v0.2.2.2.2.2 v0.1 none 0 0 v0.2.1 v0.2.2.1 v0.2.2.2.1 v0.2.2.2.2.1 v0.2.2.2.2.2 _ Rd.empty Rd.empty (by omega) (by omega)).mono ?_
              rintro e11 w8 ⟨rfl, hu8⟩
              rw [HSV.out]
              go_wp2_with (go_at_call 11; with_reducible refine (awake15_any _).mono ?_; rintro e w9 ⟨rfl, hu9⟩)
              go_ret
              exact ⟨rfl, (hup7.trans hu8).trans hu9⟩
            · rw [if_neg hj0] at hp6
              obtain ⟨R, rn, rc, rfl, hrd6, hrc, hrn, hu6⟩ := hp6
              (try dsimp only at hrd6)
              unfold vcs
              (try dsimp only)
              have z1 : ((j : Int) == 0) = false := by rw [beq_eq_false_iff_ne]; omega
              have hu7 : Up w6 (w6.alloc (.cells #[.int .i64 p.v.1, .slice R rn rc, .int .u64 (p.v.2.2.1 : Int), .int .u64 (p.v.2.2.2.1 : Int), .int .u64 (p.v.2.2.2.2.1 : Int), .int .u64 (p.v.2.2.2.2.2 : Int)] 27)) := (Up.refl w6).alloc _
              have hb7 : (w6.alloc (.cells #[.int .i64 p.v.1, .slice R rn rc, .int .u64 (p.v.2.2.1 : Int), .int .u64 (p.v.2.2.2.1 : Int), .int .u64 (p.v.2.2.2.2.1 : Int), .int .u64 (p.v.2.2.2.2.2 : Int)] 27)).heap[w6.heap.size]? = some (.cells (vcs p.v R rn rc) 27 (0, 0)) := heap_alloc_new _ _
              have hrd7 := hrd6.up hu7
              have hu27 := hu2.trans (hu5.trans (hu6.trans hu7))
              have hup7 := hup.trans hu27
              have hpr7 := hpr.1.up hu27
              have hce := HCE.out j (.int .i64 (e : Int)) (by rw [nvi, List.getElem?_map, he.out]; rfl)
              have hcv := fun i hi => HCV.out (j * 6 + i) _ ((pvs_at ps HP.out i hi).trans (List.getElem?_eq_getElem (show i < p.cs.length from hi)))
              have k0 := hcv 0 (by omega)
              have k1 := hcv 1 (by omega)
              have k2 := hcv 2 (by omega)
              have k3 := hcv 3 (by omega)
              have k4 := hcv 4 (by omega)
              have k5 := hcv 5 (by omega)
              simp only [PV.cs, List.getElem_cons_zero, List.getElem_cons_succ, Nat.add_zero] at k0 k1 k2 k3 k4 k5
              clear hcv
              go_upto_region 26 with fail
              generalize w6.heap.size = g7 at *
              generalize w6.alloc (.cells #[.int .i64 p.v.1, .slice R rn rc, .int .u64 (p.v.2.2.1 : Int), .int .u64 (p.v.2.2.2.1 : Int), .int .u64 (p.v.2.2.2.2.1 : Int), .int .u64 (p.v.2.2.2.2.2 : Int)] 27) = w7 at *
              have hS : ∀ W, Up w7 W → Up w7 W ∧ C6 W g7 p.v R rn rc ∧ W.cell? ⟨gE, j, none⟩ = some (.int .i64 (e : Int)) ∧ W.cell? ⟨gV, j * 6, none⟩ = some (.int .i64 p.v.1) ∧ W.cell? ⟨gV, j * 6 + 1, none⟩ = some (.slice p.R p.n p.c) ∧ W.cell? ⟨gV, j * 6 + 2, none⟩ = some (.int .u64 (p.v.2.2.1 : Int)) ∧ W.cell? ⟨gV, j * 6 + 3, none⟩ = some (.int .u64 (p.v.2.2.2.1 : Int)) ∧ W.cell? ⟨gV, j * 6 + 4, none⟩ = some (.int .u64 (p.v.2.2.2.2.1 : Int)) ∧ W.cell? ⟨gV, j * 6 + 5, none⟩ = some (.int .u64 (p.v.2.2.2.2.2 : Int)) := fun W h =>
                ⟨h, vw_c6 (blk_upE h hb7), hce W (hu27.trans h), k0 W (hu27.trans h), k1 W (hu27.trans h), k2 W (hu27.trans h), k3 W (hu27.trans h), k4 W (hu27.trans h), k5 W (hu27.trans h)⟩
              have hsv := fun W (h : Up w7 W) => sameView_any p.v.1 R rn rc p.v.2.1 p.v.2.2.1 p.v.2.2.2.1 p.v.2.2.2.2.1 p.v.2.2.2.2.2 p.v.1 p.R p.n p.c p.v.2.1 p.v.2.2.1 p.v.2.2.2.1 p.v.2.2.2.2.1 p.v.2.2.2.2.2 W (hrd7.up h) (hpr7.up h) (by omega) (by omega)
              rw [show sameV p.v.1 p.v.2.1 p.v.2.2.1 p.v.2.2.2.1 p.v.2.2.2.2.1 p.v.2.2.2.2.2 p.v.1 p.v.2.1 p.v.2.2.1 p.v.2.2.2.1 p.v.2.2.2.2.1 p.v.2.2.2.2.2 = true from by unfold sameV; simp] at hsv
              have haw := fun W (h : Up w7 W) => awake15_any W
              have j3 : (j : Int) < (k : Int) + 1 := by omega
              have j4 : j < k + 1 := by omega
              unfold C6 at hS
              clear hce k0 k1 k2 k3 k4 k5 hb7 hrd7 hpr7 hrd6 hrd5
              apply Rg.region_up _ (by kernel_rfl) (by kernel_rfl) hS
              · intro QN hQN
                iterate 3 (apply Rg.RK.ok; (· intro vs w1 hS; go_simp; with_reducible rfl); (· rfl); simp only [Act.put, List.setIfInBounds_toArray, List.set_cons_zero, List.set_cons_succ, Nat.reduceAdd])
                iterate 6 (apply Rg.RK.gok (t := 150); (· intro vs w1 hS; go_simp; with_reducible rfl); (· rfl); (· intro vs; rfl); simp only [Act.put, List.setIfInBounds_toArray, List.set_cons_zero, List.set_cons_succ, Nat.reduceAdd])
                iterate 2 (apply Rg.RK.ok; (· intro vs w1 hS; go_simp; with_reducible rfl); (· rfl); simp only [Act.put, List.setIfInBounds_toArray, List.set_cons_zero, List.set_cons_succ, Nat.reduceAdd])
                iterate 5 (apply Rg.RK.gok (t := 158); (· intro vs w1 hS; go_simp; with_reducible rfl); (· rfl); (· intro vs; rfl); simp only [Act.put, List.setIfInBounds_toArray, List.set_cons_zero, List.set_cons_succ, Nat.reduceAdd])
                apply Rg.RK.gcall (t := 158) (.bool true) []
                · rfl
                · intro vs; rfl
                · intro vs w1 hK hS _ K hKK
                  go_simp
                  refine (hsv _ hS.1).mono ?_
                  rintro e w2 ⟨rfl, hu2⟩
                  exact hKK.out _ hu2
                simp only [Act.put, List.setIfInBounds_toArray, List.set_cons_zero, List.set_cons_succ, Nat.reduceAdd]
                iterate 2 (apply Rg.RK.ok; (· intro vs w1 hS; go_simp; with_reducible rfl); (· rfl); simp only [Act.put, List.setIfInBounds_toArray, List.set_cons_zero, List.set_cons_succ, Nat.reduceAdd])
                apply Rg.RK.gcall (t := 166) (.bool true) []
                · rfl
                · intro vs; rfl
                · intro vs w1 hK hS _ K hKK
                  go_simp
                  refine (haw _ hS.1).mono ?_
                  rintro e w2 ⟨rfl, hu2⟩
                  exact hKK.out _ hu2
                simp only [Act.put, List.setIfInBounds_toArray, List.set_cons_zero, List.set_cons_succ, Nat.reduceAdd]
                iterate 2 (apply Rg.RK.ok; (· intro vs w1 hS; go_simp; with_reducible rfl); (· rfl); simp only [Act.put, List.setIfInBounds_toArray, List.set_cons_zero, List.set_cons_succ, Nat.reduceAdd])
                apply Rg.RK.fin []
                intro vs wk hK hS hf
                refine hQN.out _ _ ?_
                clear hQN
                have huk := keeps_up hK
                clear hS hK hf hsv haw
                go_wp2_with fail
                go_ret
                exact ⟨rfl, hup7.trans huk⟩
              · kernel_rfl
    · have i1 : ¬ (k : Int) < (n : Int) := by omega
      obtain ⟨C1, hC, hC2⟩ := i64_and_le cut 65535 (by omega)
      replace hC : bits .and .i64 cut 65535 = (C1 : Int) := hC
      obtain ⟨N, hN⟩ : ∃ N, N = S.length := ⟨_, rfl⟩
      have hts : (tx S).size = N := by rw [tx_size, hN]
      have hN2 : N ≤ 21600 := by omega
      obtain ⟨K, hK, hKN⟩ : ∃ K : Nat, (C1 : Int) % ((N : Int) + 1) = (K : Int) ∧ K ≤ N := ⟨C1 % (N + 1), (by rw [Int.natCast_emod]; rfl), by have := Nat.mod_lt C1 (show 0 < N + 1 by omega); omega⟩
      have hM0 : ¬ ((N : Int) + 1 = 0) := by omega
      have hK2 : (C1 : Int).tmod ((N : Int) + 1) = (K : Int) := by rw [Int.tmod_eq_emod_of_nonneg (by omega)]; exact hK
      have HN := Lib.hid hN
      obtain ⟨gE, rfl, hcE⟩ := own_cellsX hvi.ends (by omega)
      obtain ⟨gV, rfl, hcV⟩ := own_cellsX hvi.own (by omega)
      have HCE := Lib.hid hcE
      have HCV := Lib.hid hcV
      have hK3 : (K : Int) ≤ (N : Int) := by omega
      clear hN hcE hcV hC2
      go_wp2_with fail
      go_loopw [16] (fun jv wr2 => ∃ j e : Nat, jv = .int .i64 (j : Int) ∧ j ≤ k ∧ Hid (es[j]? = some e) ∧ e ≤ K ∧ Up wr wr2) (fun jv _ => k - (intOf jv).toNat)
      case atStart => exact ⟨0, 0, rfl, Nat.zero_le _, hci.out.zero, Nat.zero_le _, Up.refl _⟩
      case round =>
        obtain ⟨j, e, rfl, hj, he, heK, hu2⟩ := hrel
        by_cases hjk : j < k
        · obtain ⟨e', he'⟩ : ∃ e', es[j + 1]? = some e' := ⟨_, List.getElem?_eq_getElem (by have := hvi.em; omega)⟩
          have hce1 := HCE.out (j + 1) (.int .i64 (e' : Int)) (by rw [nvi, List.getElem?_map, he']; rfl) _ hu2
          have j1 : (j : Int) + 1 < (k : Int) + 1 := by omega
          have j2 : j + 1 < k + 1 := by omega
          have HE2 := Lib.hid he'
          clear he'
          by_cases hle : e' ≤ K
          · have l1 : (e' : Int) ≤ (K : Int) := by omega
            go_wp2_with fail
            go_roundw
            case rel => exact ⟨j + 1, e', by go_num, by omega, HE2, hle, hu2⟩
            case measure => simp [intOf]; omega
          · have l1 : ¬ (e' : Int) ≤ (K : Int) := by omega
            have hnext : ∀ x, es[j + 1]? = some x → K < x := fun x hx => by
              rw [HE2.out] at hx
              injection hx with hx
              omega
            clear j1
            have j1 : (j : Int) + 1 < (k : Int) + 1 := by omega
            obtain ⟨p, hp⟩ : ∃ p, ps[j]? = some p := ⟨_, List.getElem?_eq_getElem (by have := hvi.pn; omega)⟩
            have hpr := hvi.rd p (List.mem_of_getElem? hp)
            have hrep := hci.out.at_ K j e p.v (by have := HN.out; omega) he.out (by rw [List.getElem?_map, hp]; rfl) heK hnext
            obtain ⟨c5, w5, hconv, hcap, hbeg, hu5⟩ := conv_beg wr (S.take K)
            have hext : (tx S).extract 0 K = tx (S.take K) := tx_take S K
            have hKI : (K : Int) ≤ (N : Int) := by omega
            have hTl : (S.take K).length ≤ 21600 := by rw [List.length_take]; omega
            generalize S.take K = T at *
            have HREP := Lib.hid hrep
            have HP := Lib.hid hp
            have hrd5 := hbeg.rd
            have hgz : wr.heap.size = wr.heap.size := rfl
            clear hrep hp hnext hbeg
            go_wp2_with fail
            clear hconv hext
            refine (replay_any (some ⟨wr.heap.size, 0, none⟩) T.length c5 T _ hrd5 (by omega) hcap).mono ?_
            intro e6 w6 hp6
            rw [HREP.out] at hp6
            by_cases hj0 : j = 0
            · rw [if_pos hj0] at hp6
              obtain ⟨rfl, hu6⟩ := hp6
              have z1 : ((j : Int) == 0) = true := by rw [beq_iff_eq]; omega
              have hSV : sameV v0.1 v0.2.1 v0.2.2.1 v0.2.2.2.1 v0.2.2.2.2.1 v0.2.2.2.2.2 v0.1 v0.2.1 v0.2.2.1 v0.2.2.2.1 v0.2.2.2.2.1 v0.2.2.2.2.2 = true := by decide
              have HSV := Lib.hid hSV
              have hu7 : Up w6 (w6.alloc (.cells #[.int .i64 0, .slice none 0 0, .int .u64 0, .int .u64 0, .int .u64 0, .int .u64 0] 27)) := (Up.refl w6).alloc _
              have hb7 : (w6.alloc (.cells #[.int .i64 0, .slice none 0 0, .int .u64 0, .int .u64 0, .int .u64 0, .int .u64 0] 27)).heap[w6.heap.size]? = some (.cells (vcs v0 none 0 0) 27 (0, 0)) := heap_alloc_new _ _
              obtain ⟨q0, q1, q2, q3, q4, q5⟩ := vw_c6 hb7
              have hup7 := (hup.trans hu2).trans (hu5.trans (hu6.trans hu7))
              clear hSV hb7 hu7 hj0 j1 hj
              go_wp2_with fail
              clear q0 q1 q2 q3 q4 q5
              refine (sameView_any v0.1 none 0 0 v0.2.1 v0.2.2.1 v0.2.2.2.1 v0.2.2.2.2.1 v0.2.2.2.2.2 v0.1 none 0 0 v0.2.1 v0.2.2.1 v0.2.2.2.1 v0.2.2.2.2.1 v0.2.2.2.2.2 _ Rd.empty Rd.empty (by omega) (by omega)).mono ?_
              rintro e11 w8 ⟨rfl, hu8⟩
              rw [HSV.out]
              go_wp2_with (go_at_call 11; with_reducible refine (awake15_any _).mono ?_; rintro e w9 ⟨rfl, hu9⟩)
              go_ret
              exact ⟨rfl, (hup7.trans hu8).trans hu9⟩
            · rw [if_neg hj0] at hp6
              obtain ⟨R, rn, rc, rfl, hrd6, hrc, hrn, hu6⟩ := hp6
              (try dsimp only at hrd6)
              unfold vcs
              (try dsimp only)
              have z1 : ((j : Int) == 0) = false := by rw [beq_eq_false_iff_ne]; omega
              have hu7 : Up w6 (w6.alloc (.cells #[.int .i64 p.v.1, .slice R rn rc, .int .u64 (p.v.2.2.1 : Int), .int .u64 (p.v.2.2.2.1 : Int), .int .u64 (p.v.2.2.2.2.1 : Int), .int .u64 (p.v.2.2.2.2.2 : Int)] 27)) := (Up.refl w6).alloc _
              have hb7 : (w6.alloc (.cells #[.int .i64 p.v.1, .slice R rn rc, .int .u64 (p.v.2.2.1 : Int), .int .u64 (p.v.2.2.2.1 : Int), .int .u64 (p.v.2.2.2.2.1 : Int), .int .u64 (p.v.2.2.2.2.2 : Int)] 27)).heap[w6.heap.size]? = some (.cells (vcs p.v R rn rc) 27 (0, 0)) := heap_alloc_new _ _
              have hrd7 := hrd6.up hu7
              have hu27 := hu2.trans (hu5.trans (hu6.trans hu7))
              have hup7 := hup.trans hu27
              have hpr7 := hpr.1.up hu27
              have hce := HCE.out j (.int .i64 (e : Int)) (by rw [nvi, List.getElem?_map, he.out]; rfl)
              have hcv := fun i hi => HCV.out (j * 6 + i) _ ((pvs_at ps HP.out i hi).trans (List.getElem?_eq_getElem (show i < p.cs.length from hi)))
              have k0 := hcv 0 (by omega)
              have k1 := hcv 1 (by omega)
              have k2 := hcv 2 (by omega)
              have k3 := hcv 3 (by omega)
              have k4 := hcv 4 (by omega)
              have k5 := hcv 5 (by omega)
              simp only [PV.cs, List.getElem_cons_zero, List.getElem_cons_succ, Nat.add_zero] at k0 k1 k2 k3 k4 k5
              clear hcv
              go_upto_region 26 with fail
              generalize w6.heap.size = g7 at *
              generalize w6.alloc (.cells #[.int .i64 p.v.1, .slice R rn rc, .int .u64 (p.v.2.2.1 : Int), .int .u64 (p.v.2.2.2.1 : Int), .int .u64 (p.v.2.2.2.2.1 : Int), .int .u64 (p.v.2.2.2.2.2 : Int)] 27) = w7 at *
              have hS : ∀ W, Up w7 W → Up w7 W ∧ C6 W g7 p.v R rn rc ∧ W.cell? ⟨gE, j, none⟩ = some (.int .i64 (e : Int)) ∧ W.cell? ⟨gV, j * 6, none⟩ = some (.int .i64 p.v.1) ∧ W.cell? ⟨gV, j * 6 + 1, none⟩ = some (.slice p.R p.n p.c) ∧ W.cell? ⟨gV, j * 6 + 2, none⟩ = some (.int .u64 (p.v.2.2.1 : Int)) ∧ W.cell? ⟨gV, j * 6 + 3, none⟩ = some (.int .u64 (p.v.2.2.2.1 : Int)) ∧ W.cell? ⟨gV, j * 6 + 4, none⟩ = some (.int .u64 (p.v.2.2.2.2.1 : Int)) ∧ W.cell? ⟨gV, j * 6 + 5, none⟩ = some (.int .u64 (p.v.2.2.2.2.2 : Int)) := fun W h =>
                ⟨h, vw_c6 (blk_upE h hb7), hce W (hu27.trans h), k0 W (hu27.trans h), k1 W (hu27.trans h), k2 W (hu27.trans h), k3 W (hu27.trans h), k4 W (hu27.trans h), k5 W (hu27.trans h)⟩
              have hsv := fun W (h : Up w7 W) => sameView_any p.v.1 R rn rc p.v.2.1 p.v.2.2.1 p.v.2.2.2.1 p.v.2.2.2.2.1 p.v.2.2.2.2.2 p.v.1 p.R p.n p.c p.v.2.1 p.v.2.2.1 p.v.2.2.2.1 p.v.2.2.2.2.1 p.v.2.2.2.2.2 W (hrd7.up h) (hpr7.up h) (by omega) (by omega)
              rw [show sameV p.v.1 p.v.2.1 p.v.2.2.1 p.v.2.2.2.1 p.v.2.2.2.2.1 p.v.2.2.2.2.2 p.v.1 p.v.2.1 p.v.2.2.1 p.v.2.2.2.1 p.v.2.2.2.2.1 p.v.2.2.2.2.2 = true from by unfold sameV; simp] at hsv
              have haw := fun W (h : Up w7 W) => awake15_any W
              have j3 : (j : Int) < (k : Int) + 1 := by omega
              have j4 : j < k + 1 := by omega
              unfold C6 at hS
              clear hce k0 k1 k2 k3 k4 k5 hb7 hrd7 hpr7 hrd6 hrd5
              apply Rg.region_up _ (by kernel_rfl) (by kernel_rfl) hS
              · intro QN hQN
                iterate 3 (apply Rg.RK.ok; (· intro vs w1 hS; go_simp; with_reducible rfl); (· rfl); simp only [Act.put, List.setIfInBounds_toArray, List.set_cons_zero, List.set_cons_succ, Nat.reduceAdd])
                iterate 6 (apply Rg.RK.gok (t := 150); (· intro vs w1 hS; go_simp; with_reducible rfl); (· rfl); (· intro vs; rfl); simp only [Act.put, List.setIfInBounds_toArray, List.set_cons_zero, List.set_cons_succ, Nat.reduceAdd])
                iterate 2 (apply Rg.RK.ok; (· intro vs w1 hS; go_simp; with_reducible rfl); (· rfl); simp only [Act.put, List.setIfInBounds_toArray, List.set_cons_zero, List.set_cons_succ, Nat.reduceAdd])
                iterate 5 (apply Rg.RK.gok (t := 158); (· intro vs w1 hS; go_simp; with_reducible rfl); (· rfl); (· intro vs; rfl); simp only [Act.put, List.setIfInBounds_toArray, List.set_cons_zero, List.set_cons_succ, Nat.reduceAdd])
                apply Rg.RK.gcall (t := 158) (.bool true) []
                · rfl
                · intro vs; rfl
                · intro vs w1 hK hS _ K hKK
                  go_simp
                  refine (hsv _ hS.1).mono ?_
                  rintro e w2 ⟨rfl, hu2⟩
                  exact hKK.out _ hu2
                simp only [Act.put, List.setIfInBounds_toArray, List.set_cons_zero, List.set_cons_succ, Nat.reduceAdd]
                iterate 2 (apply Rg.RK.ok; (· intro vs w1 hS; go_simp; with_reducible rfl); (· rfl); simp only [Act.put, List.setIfInBounds_toArray, List.set_cons_zero, List.set_cons_succ, Nat.reduceAdd])
                apply Rg.RK.gcall (t := 166) (.bool true) []
                · rfl
                · intro vs; rfl
                · intro vs w1 hK hS _ K hKK
                  go_simp
                  refine (haw _ hS.1).mono ?_
                  rintro e w2 ⟨rfl, hu2⟩
                  exact hKK.out _ hu2
                simp only [Act.put, List.setIfInBounds_toArray, List.set_cons_zero, List.set_cons_succ, Nat.reduceAdd]
                iterate 2 (apply Rg.RK.ok; (· intro vs w1 hS; go_simp; with_reducible rfl); (· rfl); simp only [Act.put, List.setIfInBounds_toArray, List.set_cons_zero, List.set_cons_succ, Nat.reduceAdd])
                apply Rg.RK.fin []
                intro vs wk hK hS hf
                refine hQN.out _ _ ?_
                clear hQN
                have huk := keeps_up hK
                clear hS hK hf hsv haw
                go_wp2_with fail
                go_ret
                exact ⟨rfl, hup7.trans huk⟩
              · kernel_rfl
        · have j1 : ¬ (j : Int) + 1 < (k : Int) + 1 := by omega
          have hnext : ∀ x, es[j + 1]? = some x → K < x := fun x hx => by
            have := (List.getElem?_eq_some_iff.1 hx).1
            have := hvi.em
            omega
          obtain ⟨p, hp⟩ : ∃ p, ps[j]? = some p := ⟨_, List.getElem?_eq_getElem (by have := hvi.pn; omega)⟩
          have hpr := hvi.rd p (List.mem_of_getElem? hp)
          have hrep := hci.out.at_ K j e p.v (by have := HN.out; omega) he.out (by rw [List.getElem?_map, hp]; rfl) heK hnext
          obtain ⟨c5, w5, hconv, hcap, hbeg, hu5⟩ := conv_beg wr (S.take K)
          have hext : (tx S).extract 0 K = tx (S.take K) := tx_take S K
          have hKI : (K : Int) ≤ (N : Int) := by omega
          have hTl : (S.take K).length ≤ 21600 := by rw [List.length_take]; omega
          generalize S.take K = T at *
          have HREP := Lib.hid hrep
          have HP := Lib.hid hp
          have hrd5 := hbeg.rd
          have hgz : wr.heap.size = wr.heap.size := rfl
          clear hrep hp hnext hbeg
          go_wp2_with fail
          clear hconv hext
          refine (replay_any (some ⟨wr.heap.size, 0, none⟩) T.length c5 T _ hrd5 (by omega) hcap).mono ?_
          intro e6 w6 hp6
          rw [HREP.out] at hp6
          by_cases hj0 : j = 0
          · rw [if_pos hj0] at hp6
            obtain ⟨rfl, hu6⟩ := hp6
            have z1 : ((j : Int) == 0) = true := by rw [beq_iff_eq]; omega
            have hSV : sameV v0.1 v0.2.1 v0.2.2.1 v0.2.2.2.1 v0.2.2.2.2.1 v0.2.2.2.2.2 v0.1 v0.2.1 v0.2.2.1 v0.2.2.2.1 v0.2.2.2.2.1 v0.2.2.2.2.2 = true := by decide
            have HSV := Lib.hid hSV
            have hu7 : Up w6 (w6.alloc (.cells #[.int .i64 0, .slice none 0 0, .int .u64 0, .int .u64 0, .int .u64 0, .int .u64 0] 27)) := (Up.refl w6).alloc _
            have hb7 : (w6.alloc (.cells #[.int .i64 0, .slice none 0 0, .int .u64 0, .int .u64 0, .int .u64 0, .int .u64 0] 27)).heap[w6.heap.size]? = some (.cells (vcs v0 none 0 0) 27 (0, 0)) := heap_alloc_new _ _
            obtain ⟨q0, q1, q2, q3, q4, q5⟩ := vw_c6 hb7
            have hup7 := (hup.trans hu2).trans (hu5.trans (hu6.trans hu7))
            clear hSV hb7 hu7 hj0 j1 hj
            go_wp2_with fail
            clear q0 q1 q2 q3 q4 q5
            refine (sameView_any v0.1 none 0 0 v0.2.1 v0.2.2.1 v0.2.2.2.1 v0.2.2.2.2.1 v0.2.2.2.2.2 v0.1 none 0 0 v0.2.1 v0.2.2.1 v0.2.2.2.1 v0.2.2.2.2.1 v0.2.2.2.2.2 _ Rd.empty Rd.empty (by omega) (by omega)).mono ?_
            rintro e11 w8 ⟨rfl, hu8⟩
            rw [HSV.out]
            go_wp2_with (go_at_call 11; with_reducible refine (awake15_any _).mono ?_; rintro e w9 ⟨rfl, hu9⟩)
            go_ret
            exact ⟨rfl, (hup7.trans hu8).trans hu9⟩
          · rw [if_neg hj0] at hp6
            obtain ⟨R, rn, rc, rfl, hrd6, hrc, hrn, hu6⟩ := hp6
            (try dsimp only at hrd6)
            unfold vcs
            (try dsimp only)
            have z1 : ((j : Int) == 0) = false := by rw [beq_eq_false_iff_ne]; omega
            have hu7 : Up w6 (w6.alloc (.cells #[.int .i64 p.v.1, .slice R rn rc, .int .u64 (p.v.2.2.1 : Int), .int .u64 (p.v.2.2.2.1 : Int), .int .u64 (p.v.2.2.2.2.1 : Int), .int .u64 (p.v.2.2.2.2.2 : Int)] 27)) := (Up.refl w6).alloc _
            have hb7 : (w6.alloc (.cells #[.int .i64 p.v.1, .slice R rn rc, .int .u64 (p.v.2.2.1 : Int), .int .u64 (p.v.2.2.2.1 : Int), .int .u64 (p.v.2.2.2.2.1 : Int), .int .u64 (p.v.2.2.2.2.2 : Int)] 27)).heap[w6.heap.size]? = some (.cells (vcs p.v R rn rc) 27 (0, 0)) := heap_alloc_new _ _
            have hrd7 := hrd6.up hu7
            have hu27 := hu2.trans (hu5.trans (hu6.trans hu7))
            have hup7 := hup.trans hu27
            have hpr7 := hpr.1.up hu27
            have hce := HCE.out j (.int .i64 (e : Int)) (by rw [nvi, List.getElem?_map, he.out]; rfl)
            have hcv := fun i hi => HCV.out (j * 6 + i) _ ((pvs_at ps HP.out i hi).trans (List.getElem?_eq_getElem (show i < p.cs.length from hi)))
            have k0 := hcv 0 (by omega)
            have k1 := hcv 1 (by omega)
            have k2 := hcv 2 (by omega)
            have k3 := hcv 3 (by omega)
            have k4 := hcv 4 (by omega)
            have k5 := hcv 5 (by omega)
            simp only [PV.cs, List.getElem_cons_zero, List.getElem_cons_succ, Nat.add_zero] at k0 k1 k2 k3 k4 k5
            clear hcv
            go_upto_region 26 with fail
            generalize w6.heap.size = g7 at *
            generalize w6.alloc (.cells #[.int .i64 p.v.1, .slice R rn rc, .int .u64 (p.v.2.2.1 : Int), .int .u64 (p.v.2.2.2.1 : Int), .int .u64 (p.v.2.2.2.2.1 : Int), .int .u64 (p.v.2.2.2.2.2 : Int)] 27) = w7 at *
            have hS : ∀ W, Up w7 W → Up w7 W ∧ C6 W g7 p.v R rn rc ∧ W.cell? ⟨gE, j, none⟩ = some (.int .i64 (e : Int)) ∧ W.cell? ⟨gV, j * 6, none⟩ = some (.int .i64 p.v.1) ∧ W.cell? ⟨gV, j * 6 + 1, none⟩ = some (.slice p.R p.n p.c) ∧ W.cell? ⟨gV, j * 6 + 2, none⟩ = some (.int .u64 (p.v.2.2.1 : Int)) ∧ W.cell? ⟨gV, j * 6 + 3, none⟩ = some (.int .u64 (p.v.2.2.2.1 : Int)) ∧ W.cell? ⟨gV, j * 6 + 4, none⟩ = some (.int .u64 (p.v.2.2.2.2.1 : Int)) ∧ W.cell? ⟨gV, j * 6 + 5, none⟩ = some (.int .u64 (p.v.2.2.2.2.2 : Int)) := fun W h =>
              ⟨h, vw_c6 (blk_upE h hb7), hce W (hu27.trans h), k0 W (hu27.trans h), k1 W (hu27.trans h), k2 W (hu27.trans h), k3 W (hu27.trans h), k4 W (hu27.trans h), k5 W (hu27.trans h)⟩
            have hsv := fun W (h : Up w7 W) => sameView_any p.v.1 R rn rc p.v.2.1 p.v.2.2.1 p.v.2.2.2.1 p.v.2.2.2.2.1 p.v.2.2.2.2.2 p.v.1 p.R p.n p.c p.v.2.1 p.v.2.2.1 p.v.2.2.2.1 p.v.2.2.2.2.1 p.v.2.2.2.2.2 W (hrd7.up h) (hpr7.up h) (by omega) (by omega)
            rw [show sameV p.v.1 p.v.2.1 p.v.2.2.1 p.v.2.2.2.1 p.v.2.2.2.2.1 p.v.2.2.2.2.2 p.v.1 p.v.2.1 p.v.2.2.1 p.v.2.2.2.1 p.v.2.2.2.2.1 p.v.2.2.2.2.2 = true from by unfold sameV; simp] at hsv
            have haw := fun W (h : Up w7 W) => awake15_any W
            have j3 : (j : Int) < (k : Int) + 1 := by omega
            have j4 : j < k + 1 := by omega
            unfold C6 at hS
            clear hce k0 k1 k2 k3 k4 k5 hb7 hrd7 hpr7 hrd6 hrd5
            apply Rg.region_up _ (by kernel_rfl) (by kernel_rfl) hS
            · intro QN hQN
              iterate 3 (apply Rg.RK.ok; (· intro vs w1 hS; go_simp; with_reducible rfl); (· rfl); simp only [Act.put, List.setIfInBounds_toArray, List.set_cons_zero, List.set_cons_succ, Nat.reduceAdd])
              iterate 6 (apply Rg.RK.gok (t := 150); (· intro vs w1 hS; go_simp; with_reducible rfl); (· rfl); (· intro vs; rfl); simp only [Act.put, List.setIfInBounds_toArray, List.set_cons_zero, List.set_cons_succ, Nat.reduceAdd])
              iterate 2 (apply Rg.RK.ok; (· intro vs w1 hS; go_simp; with_reducible rfl); (· rfl); simp only [Act.put, List.setIfInBounds_toArray, List.set_cons_zero, List.set_cons_succ, Nat.reduceAdd])
              iterate 5 (apply Rg.RK.gok (t := 158); (· intro vs w1 hS; go_simp; with_reducible rfl); (· rfl); (· intro vs; rfl); simp only [Act.put, List.setIfInBounds_toArray, List.set_cons_zero, List.set_cons_succ, Nat.reduceAdd])
              apply Rg.RK.gcall (t := 158) (.bool true) []
              · rfl
              · intro vs; rfl
              · intro vs w1 hK hS _ K hKK
                go_simp
                refine (hsv _ hS.1).mono ?_
                rintro e w2 ⟨rfl, hu2⟩
                exact hKK.out _ hu2
              simp only [Act.put, List.setIfInBounds_toArray, List.set_cons_zero, List.set_cons_succ, Nat.reduceAdd]
              iterate 2 (apply Rg.RK.ok; (· intro vs w1 hS; go_simp; with_reducible rfl); (· rfl); simp only [Act.put, List.setIfInBounds_toArray, List.set_cons_zero, List.set_cons_succ, Nat.reduceAdd])
              apply Rg.RK.gcall (t := 166) (.bool true) []
              · rfl
              · intro vs; rfl
              · intro vs w1 hK hS _ K hKK
                go_simp
                refine (haw _ hS.1).mono ?_
                rintro e w2 ⟨rfl, hu2⟩
                exact hKK.out _ hu2
              simp only [Act.put, List.setIfInBounds_toArray, List.set_cons_zero, List.set_cons_succ, Nat.reduceAdd]
              iterate 2 (apply Rg.RK.ok; (· intro vs w1 hS; go_simp; with_reducible rfl); (· rfl); simp only [Act.put, List.setIfInBounds_toArray, List.set_cons_zero, List.set_cons_succ, Nat.reduceAdd])
              apply Rg.RK.fin []
              intro vs wk hK hS hf
              refine hQN.out _ _ ?_
              clear hQN
              have huk := keeps_up hK
              clear hS hK hf hsv haw
              go_wp2_with fail
              go_ret
              exact ⟨rfl, hup7.trans huk⟩
            · kernel_rfl
end Go.Proofs.Ytokcaoaclheiiaa.editCuts

/-
  'clepsydra/clepsydralaw15.EditCuts': for every input the law returns true; each argument reads behind the call as it read before. No condition.
-/
namespace Go.Proofs.Ytokcaoaclheiiaa.editCuts
open Go.ChangeShapes Go.WideShapes Go.ChangeAt Go.RowKit
open Go.ChangeMaps (open_string shut_string)
set_option linter.unusedVariables false

set_option maxRecDepth 100000 in
theorem lifted (os : Os) (started : os.Started) (H : Type) (enc : TypeId × Value → H) :
    ReturnsInHanded {} Try.checked os 8 .any (Rows.editCutsSpec.pre6 enc Try.prog Try.f8 Rows.editCutsRow.domain false) (Rows.editCutsSpec.post enc Try.prog Try.f8 false true false false) := by
  refine returnsInHanded_of_change (C := Try.checked) prog_own started (by kernel_rfl) Try.func8
    (ChangeSpec.witness6 (enc := enc) (C := Try.checked) false ⟨#[], #[.slice none 0 0, .int .i64 0], []⟩ 8 (by kernel_rfl) (by kernel_rfl) (by kernel_rfl) (by kernel_rfl)) ?_
  intro W base args ds gs before hval0 hW hcnd _
  have hval : ∀ (j : Nat) t v, Try.f8.params[j]? = some t → args[j]? = some v → Value.okWide Try.prog W .any base t v := hval0
  have hW' := hW
  obtain ⟨p, q, hA0, hV, rfl, hfz, hnd⟩ := hW
  have hA : DataW.TrodAll enc Try.prog W 0 (fun _ => true) true Try.f8.params.toList args.toList ds p := hA0
  rw [Try.params8] at hA hval
  obtain ⟨v0, vs0, d0, ds0, p0, q0, hargs, rfl, rfl, h0, r0⟩ := trodAll_cons hA
  obtain ⟨v1, vs1, d1, ds1, p1, q1, rfl, rfl, rfl, h1, r1⟩ := trodAll_cons r0
  obtain ⟨rfl, rfl, rfl⟩ := trodAll_nil r1
  obtain rfl : args = #[v0, v1] := by cases args; simp_all
  obtain ⟨rfl, rfl⟩ := trodVars_none hV
  obtain ⟨a0, len0, cap0, rfl⟩ := okWide_slice Try.underlying30 (hval 0 30 v0 rfl rfl)
  have k0 := h0
  have lt0 : ∀ x ∈ p0, x.block < W.heap.size := by obtain ⟨m, hm⟩ := k0; exact DataW.trod_lt m _ _ _ hm
  obtain ⟨l0, w0⟩ := is_z h0
  obtain ⟨a1, rfl, rfl, rfl, w1⟩ := open_int Try.underlying3 (hval 1 3 v1 rfl rfl) h1
  have b1 := bd_i64 w1
  clear hA0 hval0
  refine (law_any a0 len0 cap0 l0 a1 W w0 b1).mono fun e W' ⟨he, bel⟩ => ?_
  subst he
  exact ⟨_, rfl, _, _, _, [], _, [], hW', trodAll_mk1 (shut_bool Try.underlying4 _), (trodAll_cons_mk (Below.trod laidOut (by kernel_rfl) (of_decide_eq_true (by kernel_rfl)) k0 bel lt0) (trodAll_cons_mk (shut_int Try.underlying3 w1) trodAll_mk0)), rfl, bel.frame _, fun h => by cases h⟩

theorem proved : Rows.EditCutsSaid :=
  OpenClaim.holds_of_wide 8 Try.f8 rfl rfl rfl rfl rfl rfl rfl ⟨rfl, rfl, rfl, rfl, rfl⟩ rfl rfl rfl rfl rfl (by kernel_rfl) Try.func8 (by kernel_rfl)
    (of_decide_eq_true (by kernel_rfl)) (by unfold Func.isWrapper; first | (rw [if_pos (by decide +kernel)]; kernel_rfl) | (rw [if_neg (by decide +kernel)]; exact ⟨rfl, rfl⟩))
    (fun os started H enc _ => lifted os started H enc)
#print axioms proved
end Go.Proofs.Ytokcaoaclheiiaa.editCuts
