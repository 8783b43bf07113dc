/-
  Texts of this claim, joined: TabW7, TabQ, TabW8, TabW9, TabW10, TabR3, TabS.
-/
import Derived.IntWalk
import Derived.Laws.BitsAllLaws
import Derived.Test.YtfmjgkfblejknaaGreatZ5
/-
  The walks of a table's Len, Get, First, Last.
-/
namespace Go.Proofs.YtfmjgkfblejknaaGreat
open Go.RowKit
set_option linter.unusedVariables false
set_option linter.unusedSimpArgs false

set_option maxRecDepth 100000 in
theorem tlen_any (g m rc N d : Nat) (R f : Option Addr) (w : World) (hd : w.heap[g]? = some (.cells (tcs R m rc N d f) 74 (0, 0))) :
    Calls Tryz.prog 13 #[.pointer (some ⟨g, 0, none⟩)] w fun e w' => e = .returned (.int .i64 (N : Int)) ∧ w = w' := by
  have c1 : w.cell? ⟨g, 1, none⟩ = some (.int .i64 (N : Int)) := blk_cell hd 1
  clear hd
  go_enter Tryz.func13, Tryz.ntmps13
  go_wp2_with fail
  go_ret
  exact ⟨rfl, rfl⟩
set_option maxRecDepth 100000 in
set_option maxHeartbeats 1600000 in
theorem get1_any (A : Option Addr) (n c : Nat) (z : List It) (x : It) (g : Nat) (w : World) (hr : Rd w w.heap.size 5 A n (itcs z)) (h0 : 0 < n) (hn : n ≤ 1000000) (hg : w.heap[g]? = some (.cells #[.int .i64 x.s.toInt, .int .i64 x.k.toInt, .int .u64 (x.t.toNat : Int), .int .u64 (x.v.toNat : Int), .int .i64 x.x.toInt] 37 (0, 0))) :
    Calls Tryz.prog 53 #[.slice A n c, .pointer (some ⟨g, 0, none⟩)] w fun e w' => e = .returned (.bool (!lessB (lastI z) x)) ∧ Up w w' := by
  obtain ⟨k, rfl⟩ : ∃ k, n = k + 1 := ⟨n - 1, by omega⟩
  obtain ⟨b, o, y, rfl, hb, hy, c0, c1, c2, c3, c4⟩ := hr.item_at (Nat.lt_succ_self k)
  have hyl : lastI z = y := by
    have hl := hr.ilen
    have h1 := lastI_at (z := z) (by omega)
    rw [show z.length - 1 = k by omega, hy] at h1
    injection h1 with h1
    exact h1.symm
  rw [hyl]
  obtain ⟨M, hM⟩ : ∃ M, M = k + 1 := ⟨_, rfl⟩
  rw [← hM] at hn ⊢
  have y1 : (M : Int) - 1 = (k : Int) := by omega
  have y2 : IntKind.i64.wrap (k : Int) = (k : Int) := IntWalk.i64_in _ (by omega)
  have y3 : (k : Int) < (M : Int) := by omega
  have y4 : k < M := by omega
  have hS : ∀ W, Up w W → ((W.cell? ⟨b, o + k * 5, none⟩ = some (.int .i64 y.s.toInt) ∧ W.cell? ⟨b, o + k * 5 + 1, none⟩ = some (.int .i64 y.k.toInt) ∧ W.cell? ⟨b, o + k * 5 + 2, none⟩ = some (.int .u64 (y.t.toNat : Int)) ∧ W.cell? ⟨b, o + k * 5 + 3, none⟩ = some (.int .u64 (y.v.toNat : Int)) ∧ W.cell? ⟨b, o + k * 5 + 4, none⟩ = some (.int .i64 y.x.toInt)) ∧
      (W.cell? ⟨g, 0, none⟩ = some (.int .i64 x.s.toInt) ∧ W.cell? ⟨g, 1, none⟩ = some (.int .i64 x.k.toInt) ∧ W.cell? ⟨g, 2, none⟩ = some (.int .u64 (x.t.toNat : Int)) ∧ W.cell? ⟨g, 3, none⟩ = some (.int .u64 (x.v.toNat : Int)) ∧ W.cell? ⟨g, 4, none⟩ = some (.int .i64 x.x.toInt))) ∧ Up w W := fun W h =>
    ⟨⟨⟨(h.cell (p := ⟨b, _, none⟩) hb).trans c0, (h.cell (p := ⟨b, _, none⟩) hb).trans c1, (h.cell (p := ⟨b, _, none⟩) hb).trans c2, (h.cell (p := ⟨b, _, none⟩) hb).trans c3, (h.cell (p := ⟨b, _, none⟩) hb).trans c4⟩, blk_cell (blk_up h hg) 0, blk_cell (blk_up h hg) 1, blk_cell (blk_up h hg) 2, blk_cell (blk_up h hg) 3, blk_cell (blk_up h hg) 4⟩, h⟩
  clear hr h0 hg hy c0 c1 c2 c3 c4 hyl hM
  go_enter Tryz.func53, Tryz.ntmps53
  go_wp2_with fail
  apply Rg.region_up _ (by kernel_rfl) (by kernel_rfl) hS
  · intro QN hQN
    iterate 7 (apply Rg.RK.ok; (· intro vs w1 hS; go_simp; with_reducible rfl); (· rfl); simp only [Act.put, List.setIfInBounds_toArray, List.set_cons_zero, List.set_cons_succ, Nat.reduceAdd])
    apply Rg.RK.call (.bool (lessB y x)) []
    · rfl
    · intro vs w1 hK hS _ K hKK
      go_simp
      refine (less_any y x w1).mono ?_
      rintro e w2 ⟨rfl, hu2⟩
      exact hKK.out _ hu2
    simp only [Act.put, List.setIfInBounds_toArray, List.set_cons_zero, List.set_cons_succ, Nat.reduceAdd]
    iterate 2 (apply Rg.RK.ok; (· intro vs w1 hS; go_simp; with_reducible rfl); (· rfl); simp only [Act.put, List.setIfInBounds_toArray, List.set_cons_zero, List.set_cons_succ, Nat.reduceAdd])
    apply Rg.RK.fin []
    intro vs w1 hK hS _
    refine hQN.out _ _ ?_
    clear hQN
    go_wp2_with fail
    go_ret
    exact ⟨rfl, hS.2⟩
  · kernel_rfl
set_option maxRecDepth 100000 in
set_option maxHeartbeats 1600000 in
theorem tgidx_any (A : Option Addr) (n c : Nat) (rs : List Rw) (x : It) (g : Nat) (w : World) (hr : Rd w w.heap.size 1 A n (rwv rs)) (hok : RwOk w rs) (h0 : ∀ r ∈ rs, 0 < r.n ∧ r.n ≤ 1000000) (hn : n ≤ 9223372036854775807) (hg : w.heap[g]? = some (.cells #[.int .i64 x.s.toInt, .int .i64 x.k.toInt, .int .u64 (x.t.toNat : Int), .int .u64 (x.v.toNat : Int), .int .i64 x.x.toInt] 37 (0, 0))) :
    Calls Tryz.prog 52 #[.slice A n c, .func (.func 53) #[] #[.pointer (some ⟨g, 0, none⟩)]] w (IdxPost (geR x (rwl rs)) n w) := by
  have HL := Lib.hid hr.rlen
  have H0 := Lib.hid h0
  obtain ⟨G, hG⟩ : ∃ q, q = geR x (rwl rs) := ⟨_, rfl⟩
  rw [← hG]
  have HG := Lib.hid hG
  clear hG h0
  obtain ⟨wo, hwo⟩ : ∃ q, q = w := ⟨_, rfl⟩
  subst hwo
  go_enter Tryz.func52, Tryz.ntmps52
  go_wp2_with fail
  go_loopw [8] (fun i wr => ∃ k : Nat, i = .int .i64 (k : Int) ∧ k ≤ n ∧ k ≤ G ∧ Up wo wr) (fun i _ => n - (intOf i).toNat)
  case atStart => exact ⟨0, rfl, by omega, by omega, Up.refl _⟩
  case round =>
    obtain ⟨k, rfl, hk, hkG, hu⟩ := hrel
    by_cases hlt : k < n
    · obtain ⟨b, o, r, rfl, hb, hrk, hc0⟩ := hr.row_at hlt
      have hc : wr.cell? ⟨b, o + k, none⟩ = some (.slice r.A r.n r.c) := (hu.cell (p := ⟨b, o + k, none⟩) hb).trans hc0
      have hmem := List.mem_of_getElem? hrk
      have hkl : k < (rwl rs).length := by rw [rwl_len]; have := HL.out; omega
      have hi : (rwl rs)[k] = r.l := by
        have h1 : (rwl rs)[k]? = some r.l := by simp [rwl, hrk]
        rw [List.getElem?_eq_getElem hkl] at h1
        injection h1
      have HI := Lib.hid hi
      have hge := get1_any r.A r.n r.c r.l x g wr ((hok r hmem).1.up hu) (H0.out r hmem).1 (H0.out r hmem).2 (blk_up hu hg)
      have HGE := Lib.hid hge
      clear hrk hi hge hmem hc0
      go_wp2_with fail
      refine HGE.out.mono ?_
      rintro e w2 ⟨rfl, hu2⟩
      clear hc HGE
      obtain ⟨lb, hlb⟩ : ∃ q, q = lessB (lastI r.l) x := ⟨_, rfl⟩
      rw [← hlb]
      have HLB := Lib.hid hlb
      clear hlb
      cases lb
      · have hz : Hid (k = G) := by
          show _ = _
          rw [HG.out]
          exact (geR_step hkl (by rw [← HG.out]; exact hkG)).2 (by rw [HI.out]; exact HLB.out.symm)
        go_wp2_with fail
        go_ret
        refine ⟨?_, hu.trans hu2⟩
        show Ending.returned (.int .i64 (k : Int)) = _
        rw [← hz.out, if_pos hlt]
      · have hz : k + 1 ≤ G := by
          rw [HG.out]
          exact (geR_step hkl (by rw [← HG.out]; exact hkG)).1 (by rw [HI.out]; exact HLB.out.symm)
        go_wp2_with fail
        go_roundw
        case rel => exact ⟨k + 1, by go_num, by omega, hz, hu.trans hu2⟩
        case measure => simp [intOf]; omega
    · go_wp2_with fail
      go_ret
      refine ⟨?_, hu⟩
      show Ending.returned (.int .i64 (-1)) = _
      rw [if_neg (by omega)]
set_option maxRecDepth 100000 in
set_option maxHeartbeats 1600000 in
theorem tfirst_no (g m rc d : Nat) (R f : Option Addr) (w : World) (hd : w.heap[g]? = some (.cells (tcs R m rc 0 d f) 74 (0, 0))) :
    Calls Tryz.prog 15 #[.pointer (some ⟨g, 0, none⟩)] w fun e w' => e = .returned (.tuple #[.agg #[.int .i64 0, .int .i64 0, .int .u64 0, .int .u64 0, .int .i64 0], .bool false]) ∧ Up w w' := by
  have hS : ∀ o, (w.alloc o).cell? ⟨g, 1, none⟩ = some (.int .i64 0) := fun o => blk_cell (blk_up ((Up.refl w).alloc o) hd) 1
  clear hd
  go_enter Tryz.func15, Tryz.ntmps15
  go_wp2_with fail
  refine bodyPost_ret (v := .tuple #[.agg #[.int .i64 0, .int .i64 0, .int .u64 0, .int .u64 0, .int .i64 0], .bool false]) (by simp [results, Tryz.results15, go_sem]) rfl ?_
  exact ⟨rfl, (Up.refl w).alloc _⟩
set_option maxRecDepth 100000 in
set_option maxHeartbeats 1600000 in
theorem tfirst_yes (g m rc N d : Nat) (R f : Option Addr) (rs : List Rw) (r : Rw) (y : It) (w : World) (hd : w.heap[g]? = some (.cells (tcs R m rc N d f) 74 (0, 0))) (hN : 0 < N) (hq : Rd w w.heap.size 1 R m (rwv rs)) (hok : RwOk w rs) (h0 : rs[0]? = some r) (hy : r.l[0]? = some y) :
    Calls Tryz.prog 15 #[.pointer (some ⟨g, 0, none⟩)] w fun e w' => e = .returned (.tuple #[.agg #[.int .i64 y.s.toInt, .int .i64 y.k.toInt, .int .u64 (y.t.toNat : Int), .int .u64 (y.v.toNat : Int), .int .i64 y.x.toInt], .bool true]) ∧ Up w w' := by
  have hS : ∀ o, (w.alloc o).cell? ⟨g, 1, none⟩ = some (.int .i64 (N : Int)) := fun o => blk_cell (blk_up ((Up.refl w).alloc o) hd) 1
  have hS0 : ∀ o, (w.alloc o).cell? ⟨g, 0, none⟩ = some (.slice R m rc) := fun o => blk_cell (blk_up ((Up.refl w).alloc o) hd) 0
  have hm : 0 < m := by have := hq.rlen; have := (List.getElem?_eq_some_iff.1 h0).1; omega
  obtain ⟨b, o, r', rfl, hb, hr', hc⟩ := hq.row_at hm
  rw [h0] at hr'
  injection hr' with hr'
  subst hr'
  have hrr := (hok r (List.mem_of_getElem? h0)).1
  have hn : 0 < r.n := by have := hrr.ilen; have := (List.getElem?_eq_some_iff.1 hy).1; omega
  obtain ⟨b2, o2, y', e2, hb2, hy', c0, c1, c2, c3, c4⟩ := hrr.item_at hn
  rw [hy] at hy'
  injection hy' with hy'
  subst hy'
  rw [e2] at hc
  have hC : ∀ ob, (w.alloc ob).cell? ⟨b, o, none⟩ = some (.slice (some ⟨b2, o2, none⟩) r.n r.c) := fun ob => (World.cell?_alloc_past _ _ _ hb).trans hc
  rw [Nat.zero_mul, Nat.add_zero] at c0 c1 c2 c3 c4
  have C0 : ∀ ob, (w.alloc ob).cell? ⟨b2, o2, none⟩ = some (.int .i64 y.s.toInt) := fun ob => (World.cell?_alloc_past _ _ _ hb2).trans c0
  have C1 : ∀ ob, (w.alloc ob).cell? ⟨b2, o2 + 1, none⟩ = some (.int .i64 y.k.toInt) := fun ob => (World.cell?_alloc_past _ _ _ hb2).trans c1
  have C2 : ∀ ob, (w.alloc ob).cell? ⟨b2, o2 + 2, none⟩ = some (.int .u64 (y.t.toNat : Int)) := fun ob => (World.cell?_alloc_past _ _ _ hb2).trans c2
  have C3 : ∀ ob, (w.alloc ob).cell? ⟨b2, o2 + 3, none⟩ = some (.int .u64 (y.v.toNat : Int)) := fun ob => (World.cell?_alloc_past _ _ _ hb2).trans c3
  have C4 : ∀ ob, (w.alloc ob).cell? ⟨b2, o2 + 4, none⟩ = some (.int .i64 y.x.toInt) := fun ob => (World.cell?_alloc_past _ _ _ hb2).trans c4
  have i0 : ((N : Int) == 0) = false := by rw [beq_eq_false_iff_ne]; omega
  have i1 : (0 : Int) < (m : Int) := by omega
  have i2 : (0 : Int) < (r.n : Int) := by omega
  clear hd hq hok h0 hy hrr e2 hc c0 c1 c2 c3 c4 hb hb2
  go_enter Tryz.func15, Tryz.ntmps15
  go_wp2_with fail
  refine bodyPost_ret (v := .tuple #[.agg #[.int .i64 y.s.toInt, .int .i64 y.k.toInt, .int .u64 (y.t.toNat : Int), .int .u64 (y.v.toNat : Int), .int .i64 y.x.toInt], .bool true]) (by simp [results, Tryz.results15, go_sem]) rfl ?_
  exact ⟨rfl, (Up.refl w).alloc _⟩
set_option maxRecDepth 100000 in
set_option maxHeartbeats 1600000 in
theorem tlast_no (g m rc d : Nat) (R f : Option Addr) (w : World) (hd : w.heap[g]? = some (.cells (tcs R m rc 0 d f) 74 (0, 0))) :
    Calls Tryz.prog 16 #[.pointer (some ⟨g, 0, none⟩)] w fun e w' => e = .returned (.tuple #[.agg #[.int .i64 0, .int .i64 0, .int .u64 0, .int .u64 0, .int .i64 0], .bool false]) ∧ Up w w' := by
  have hS : ∀ o, (w.alloc o).cell? ⟨g, 1, none⟩ = some (.int .i64 0) := fun o => blk_cell (blk_up ((Up.refl w).alloc o) hd) 1
  clear hd
  go_enter Tryz.func16, Tryz.ntmps16
  go_wp2_with fail
  refine bodyPost_ret (v := .tuple #[.agg #[.int .i64 0, .int .i64 0, .int .u64 0, .int .u64 0, .int .i64 0], .bool false]) (by simp [results, Tryz.results16, go_sem]) rfl ?_
  exact ⟨rfl, (Up.refl w).alloc _⟩
set_option maxRecDepth 100000 in
set_option maxHeartbeats 1600000 in
theorem tlast_yes (g m rc N d : Nat) (R f : Option Addr) (rs : List Rw) (r : Rw) (y : It) (w : World) (hd : w.heap[g]? = some (.cells (tcs R m rc N d f) 74 (0, 0))) (hN : 0 < N) (hm1 : m ≤ 1000000) (hn1 : r.n ≤ 1000000) (hq : Rd w w.heap.size 1 R m (rwv rs)) (hok : RwOk w rs) (h0 : rs[m - 1]? = some r) (hy : r.l[r.n - 1]? = some y) :
    Calls Tryz.prog 16 #[.pointer (some ⟨g, 0, none⟩)] w fun e w' => e = .returned (.tuple #[.agg #[.int .i64 y.s.toInt, .int .i64 y.k.toInt, .int .u64 (y.t.toNat : Int), .int .u64 (y.v.toNat : Int), .int .i64 y.x.toInt], .bool true]) ∧ Up w w' := by
  have hS : ∀ o, (w.alloc o).cell? ⟨g, 1, none⟩ = some (.int .i64 (N : Int)) := fun o => blk_cell (blk_up ((Up.refl w).alloc o) hd) 1
  have hS0 : ∀ o, (w.alloc o).cell? ⟨g, 0, none⟩ = some (.slice R m rc) := fun o => blk_cell (blk_up ((Up.refl w).alloc o) hd) 0
  have hm : 0 < m := by have := hq.rlen; have := (List.getElem?_eq_some_iff.1 h0).1; omega
  obtain ⟨k, hk⟩ : ∃ k, k = m - 1 := ⟨_, rfl⟩
  rw [← hk] at h0
  obtain ⟨b, o, r', rfl, hb, hr', hc⟩ := hq.row_at (k := k) (by omega)
  rw [h0] at hr'
  injection hr' with hr'
  subst hr'
  have hrr := (hok r (List.mem_of_getElem? h0)).1
  have hn : 0 < r.n := by have := hrr.ilen; have := (List.getElem?_eq_some_iff.1 hy).1; omega
  obtain ⟨j, hj⟩ : ∃ j, j = r.n - 1 := ⟨_, rfl⟩
  rw [← hj] at hy
  obtain ⟨b2, o2, y', e2, hb2, hy', c0, c1, c2, c3, c4⟩ := hrr.item_at (k := j) (by omega)
  rw [hy] at hy'
  injection hy' with hy'
  subst hy'
  rw [e2] at hc
  have hgl := (Array.getElem?_eq_some_iff.1 hd).1
  obtain ⟨w2, hw2⟩ : ∃ w2, w2 = w.alloc (.cells #[.int .i64 0, .int .i64 0, .int .u64 0, .int .u64 0, .int .i64 0] 37) := ⟨_, rfl⟩
  have hup2 : Up w w2 := by rw [hw2]; exact (Up.refl w).alloc _
  have hz2 : w2.heap[w.heap.size]? = some (.cells #[.int .i64 0, .int .i64 0, .int .u64 0, .int .u64 0, .int .i64 0] 37 (0, 0)) := by rw [hw2]; exact heap_alloc_new w _
  have hS3 : ∀ W, Up w2 W → (W.cell? ⟨g, 0, none⟩ = some (.slice (some ⟨b, o, none⟩) m rc) ∧ W.cell? ⟨b, o + k, none⟩ = some (.slice (some ⟨b2, o2, none⟩) r.n r.c)) ∧ Up w2 W := fun W h => ⟨⟨blk_cell (blk_up (hup2.trans h) hd) 0, ((hup2.trans h).cell (p := ⟨b, o + k, none⟩) hb).trans hc⟩, h⟩
  have hS4 : ∀ W, Up w2 W → W.cell? ⟨b2, o2 + j * 5, none⟩ = some (.int .i64 y.s.toInt) ∧ W.cell? ⟨b2, o2 + j * 5 + 1, none⟩ = some (.int .i64 y.k.toInt) ∧ W.cell? ⟨b2, o2 + j * 5 + 2, none⟩ = some (.int .u64 (y.t.toNat : Int)) ∧ W.cell? ⟨b2, o2 + j * 5 + 3, none⟩ = some (.int .u64 (y.v.toNat : Int)) ∧ W.cell? ⟨b2, o2 + j * 5 + 4, none⟩ = some (.int .i64 y.x.toInt) := fun W h => by
    have h' := hup2.trans h
    exact ⟨(h'.cell (p := ⟨b2, o2 + j * 5, none⟩) hb2).trans c0, (h'.cell (p := ⟨b2, o2 + j * 5 + 1, none⟩) hb2).trans c1, (h'.cell (p := ⟨b2, o2 + j * 5 + 2, none⟩) hb2).trans c2, (h'.cell (p := ⟨b2, o2 + j * 5 + 3, none⟩) hb2).trans c3, (h'.cell (p := ⟨b2, o2 + j * 5 + 4, none⟩) hb2).trans c4⟩
  have i0 : ((N : Int) == 0) = false := by rw [beq_eq_false_iff_ne]; omega
  generalize r.n = rn at *
  generalize r.c = rcap at *
  have y1 : (m : Int) - 1 = (k : Int) := by omega
  have y2 : IntKind.i64.wrap (k : Int) = (k : Int) := IntWalk.i64_in _ (by omega)
  have y3 : (k : Int) < (m : Int) := by omega
  have y4 : k < m := by omega
  have z1 : (rn : Int) - 1 = (j : Int) := by omega
  have z2 : IntKind.i64.wrap (j : Int) = (j : Int) := IntWalk.i64_in _ (by omega)
  have z3 : (j : Int) < (rn : Int) := by omega
  have z4 : j < rn := by omega
  have HW := Lib.hid hw2
  have hgw : w.heap.size ≤ w.heap.size := Nat.le_refl _
  clear hd hq hok h0 hy hrr e2 hc c0 c1 c2 c3 c4 hb hb2 hk hj hm hn hN hw2 hgl hS0
  go_enter Tryz.func16, Tryz.ntmps16
  go_wp2_with fail
  rw [← HW.out]
  clear HW hS
  generalize hg2 : w.heap.size = g2 at hz2 ⊢
  rw [hg2] at hgw
  apply Rg.region_up _ (by kernel_rfl) (by kernel_rfl) hS3
  · intro QN hQN
    iterate 13 (apply Rg.RK.ok; (· intro vs w1 hS; go_simp; with_reducible rfl); (· rfl); simp only [Act.put, List.setIfInBounds_toArray, List.set_cons_zero, List.set_cons_succ, Nat.reduceAdd])
    apply Rg.RK.fin []
    intro vs w1 hK hS _
    refine hQN.out _ _ ?_
    clear hQN
    obtain ⟨s0, s1, s2, s3, s4⟩ := hS4 _ hS.2
    have hz4 := blk_up hS.2 hz2
    have hup4 := hup2.trans hS.2
    clear hK hz2 hS3 hS4 hS hup2
    go_wp2_with (first
      | (with_reducible show wpList _ _ _ (⟨none, .store 37 _ _, _, _, _, none⟩ :: _) _ _
         go_loud (refine wpList_store_it5 rfl _ _ rfl (g := g2) (z0 := .int .i64 y.s.toInt) (z1 := .int .i64 y.k.toInt) (z2 := .int .u64 (y.t.toNat : Int)) (z3 := .int .u64 (y.v.toNat : Int)) (z4 := .int .i64 y.x.toInt) (by kernel_rfl) (by kernel_rfl) hz4 (by simp [Value.oneCell']) ?_)
         intro w5 hgd hbut
         have hup5 := But.up hup4 hbut (by rw [hg2]; exact Nat.le_refl _)
         clear hbut hz4
         have e0 := blk_cell hgd 0
         have e1 := blk_cell hgd 1
         have e2 := blk_cell hgd 2
         have e3 := blk_cell hgd 3
         have e4 := blk_cell hgd 4
         have f0 := blk_free hgd 0
         have f1 := blk_free hgd 1
         have f2 := blk_free hgd 2
         have f3 := blk_free hgd 3
         have f4 := blk_free hgd 4
         simp only [List.getElem?_toArray, List.getElem?_cons_zero, List.getElem?_cons_succ] at e0 e1 e2 e3 e4
         clear hgd))
    refine bodyPost_ret (v := .tuple #[.agg #[.int .i64 y.s.toInt, .int .i64 y.k.toInt, .int .u64 (y.t.toNat : Int), .int .u64 (y.v.toNat : Int), .int .i64 y.x.toInt], .bool true]) (by simp [results, Tryz.results16, go_sem, e0, e1, e2, e3, e4]) rfl ?_
    exact ⟨rfl, hup5⟩
  · kernel_rfl
end Go.Proofs.YtfmjgkfblejknaaGreat

/-
  Tables, plain: items made of numbers; ranges; two that change places.
-/
namespace Go.Proofs.YtfmjgkfblejknaaGreat
open Go.RowKit
set_option linter.unusedVariables false
set_option linter.unusedSimpArgs false

theorem riseR_idx : ∀ {l : List It}, (∀ k (h : k + 1 < l.length), lessB (l[k]'(by omega)) l[k + 1] = true) → riseR l
  | [], _ => trivial
  | [a], _ => trivial
  | a :: b :: r, h => ⟨h 0 (by simp), riseR_idx (l := b :: r) (fun k hk => h (k + 1) (by simpa using hk))⟩
theorem riseR_at {l : List It} (h : riseR l) {i k : Nat} (hk : k < l.length) (hik : i < k) : lessB (l[i]'(by omega)) l[k] = true :=
  List.pairwise_iff_getElem.1 (riseR_pw h) i k (by omega) hk hik
theorem less_irr (a : It) : lessB a a = false := by
  rw [← Bool.not_eq_true, less_iff]; omega
theorem less_asym {a b : It} (h : lessB a b = true) : lessB b a = false := by
  rw [← Bool.not_eq_true, less_iff]; rw [less_iff] at h; omega
theorem same_refl (a : It) : sameB a a = true := by rw [same_iff]; exact ⟨rfl, rfl, rfl⟩
/-- the items from one to another -/
def rangeL (l : List It) (a b : It) : List It := l.filter fun x => !lessB x a && !lessB b x
theorem rangeL_snoc (l : List It) (k : Nat) (h : k < l.length) (a b : It) : rangeL (l.take (k + 1)) a b = rangeL (l.take k) a b ++ (if (!lessB l[k] a && !lessB b l[k]) = true then [l[k]] else []) := by
  unfold rangeL
  rw [List.take_succ_eq_append_getElem h, List.filter_append]
  congr 1
  rw [List.filter_cons, List.filter_nil]
theorem rangeL_len (l : List It) (a b : It) : (rangeL l a b).length ≤ l.length := List.length_filter_le _ _
theorem rangeL_mid {l : List It} (h : riseR l) {i k : Nat} (hk : k < l.length) (hik : i ≤ k) : rangeL l (l[i]'(by omega)) l[k] = (l.take (k + 1)).drop i := by
  have hi : i < l.length := by omega
  have e : l = l.take i ++ ((l.take (k + 1)).drop i ++ l.drop (k + 1)) := by
    have e1 : l.take i ++ (l.take (k + 1)).drop i = l.take (k + 1) := by
      have := List.take_append_drop i (l.take (k + 1))
      rwa [List.take_take, Nat.min_eq_left (by omega)] at this
    rw [← List.append_assoc, e1, List.take_append_drop]
  have f1 : (l.take i).filter (fun x => !lessB x l[i] && !lessB l[k] x) = [] := by
    rw [List.filter_eq_nil_iff]
    intro x hx
    obtain ⟨j, hj, rfl⟩ := List.getElem_of_mem hx
    rw [List.length_take] at hj
    rw [List.getElem_take, riseR_at h hi (by omega)]; simp
  have f2 : ((l.take (k + 1)).drop i).filter (fun x => !lessB x l[i] && !lessB l[k] x) = (l.take (k + 1)).drop i := by
    rw [List.filter_eq_self]
    intro x hx
    obtain ⟨j, hj, rfl⟩ := List.getElem_of_mem hx
    rw [List.length_drop, List.length_take] at hj
    rw [List.getElem_drop, List.getElem_take]
    have a1 : lessB (l[i + j]'(by omega)) l[i] = false := by
      by_cases hj0 : j = 0
      · subst hj0; exact less_irr _
      · exact less_asym (riseR_at h (by omega) (by omega))
    have a2 : lessB l[k] (l[i + j]'(by omega)) = false := by
      by_cases hj0 : i + j = k
      · subst hj0; exact less_irr _
      · exact less_asym (riseR_at h (by omega) (by omega))
    rw [a1, a2]; rfl
  have f3 : (l.drop (k + 1)).filter (fun x => !lessB x l[i] && !lessB l[k] x) = [] := by
    rw [List.filter_eq_nil_iff]
    intro x hx
    obtain ⟨j, hj, rfl⟩ := List.getElem_of_mem hx
    rw [List.length_drop] at hj
    rw [List.getElem_drop, riseR_at h (k := k + 1 + j) (by omega) (by omega)]; simp
  show l.filter _ = _
  conv => lhs; arg 2; rw [e]
  rw [List.filter_append, List.filter_append, f1, f2, f3]
  simp
theorem find_at {l : List It} (h : riseR l) {i : Nat} (hi : i < l.length) {y : It} (hy : sameB y l[i] = true) : findL l y = some l[i] := by
  have hs : ∀ j (hj : j < l.length), sameB l[j] y = true → j = i := by
    intro j hj hs
    rcases Nat.lt_trichotomy j i with h1 | h1 | h1
    · have h2 := riseR_at h hi h1
      rw [less_iff] at h2; rw [same_iff] at hs hy; omega
    · exact h1
    · have h2 := riseR_at h hj h1
      rw [less_iff] at h2; rw [same_iff] at hs hy; omega
  have hsi : sameB l[i] y = true := by rw [same_iff] at hy ⊢; omega
  unfold findL
  cases hf : l.find? fun z => sameB z y with
  | none =>
    rw [List.find?_eq_none] at hf
    exact absurd hsi (hf _ (List.getElem_mem hi))
  | some z =>
    have h1 := List.find?_some hf
    obtain ⟨j, hj, rfl⟩ := List.getElem_of_mem (List.mem_of_find?_eq_some hf)
    have := hs j hj h1
    subst this; rfl
/-- item i of those that are made -/
def moreI (l : List It) (i : Nat) : It := ⟨Int64.ofInt ((i / 40 % 256 : Nat) : Int), 2, UInt64.ofNat (i % 40), UInt64.ofNat (i + 1), if l.length = 0 then 0 else (l.getD (i % l.length) noIt).x⟩
def moreL (l : List It) (n : Nat) : List It := (List.range n).map (moreI l)
theorem moreL_len (l : List It) (n : Nat) : (moreL l n).length = n := by simp [moreL]
theorem moreL_succ (l : List It) (n : Nat) : moreL l (n + 1) = moreL l n ++ [moreI l n] := by simp [moreL, List.range_succ]
theorem moreL_at (l : List It) (n : Nat) {i : Nat} (h : i < (moreL l n).length) : (moreL l n)[i] = moreI l i := by simp [moreL]
theorem moreI_f (l : List It) {i : Nat} (h : i < 10000) : (moreI l i).s.toInt = ((i / 40 : Nat) : Int) ∧ (moreI l i).k.toInt = 2 ∧ (moreI l i).t.toNat = i % 40 ∧ (moreI l i).v.toNat = i + 1 := by
  refine ⟨?_, rfl, ?_, ?_⟩
  · show (Int64.ofInt ((i / 40 % 256 : Nat) : Int)).toInt = _
    rw [Int64.toInt_ofInt_of_le (by omega) (by simp; omega)]; omega
  · show (UInt64.ofNat (i % 40)).toNat = _
    simp; omega
  · show (UInt64.ofNat (i + 1)).toNat = _
    simp; omega
theorem moreI_less (l : List It) {i j : Nat} (hj : j < 10000) (h : i < j) : lessB (moreI l i) (moreI l j) = true := by
  obtain ⟨a1, a2, a3, a4⟩ := moreI_f l (i := i) (by omega)
  obtain ⟨b1, b2, b3, b4⟩ := moreI_f l hj
  rw [less_iff, a1, a2, a3, b1, b2, b3]; omega
theorem moreL_rise (l : List It) {n : Nat} (hn : n ≤ 10000) : riseR (moreL l n) := riseR_idx fun k hk => by
  have hk2 := hk
  rw [moreL_len] at hk2
  rw [moreL_at, moreL_at]
  exact moreI_less l (by omega) (by omega)
theorem moreI_ok (l : List It) {i : Nat} (h : i < 10000) : okB (moreI l i) = true := by
  obtain ⟨a1, a2, a3, a4⟩ := moreI_f l h
  unfold okB okZ
  rw [decide_eq_true_eq, a1, a2, a3, a4]; omega
theorem moreL_ok (l : List It) {n : Nat} (hn : n ≤ 10000) : ∀ y ∈ moreL l n, okB y = true := fun y hy => by
  obtain ⟨i, hi, rfl⟩ := List.mem_map.1 hy
  exact moreI_ok l (by have := List.mem_range.1 hi; omega)
theorem moreL_make (l : List It) {n : Nat} (hn : n ≤ 2000) : makeE (moreL l n) = 0 := makeE_yes (by rw [moreL_len]; exact hn) (moreL_rise l (by omega)) (moreL_ok l (by omega))
theorem moreL_long (l : List It) {n : Nat} (hn : 2000 < n) : makeE (moreL l n) = 2 := by unfold makeE; rw [if_pos (by rw [moreL_len]; exact hn)]
/-- none is asked: its time is too great -/
theorem moreL_none (l : List It) {n : Nat} (hn : n ≤ 10000) {y : It} (hy : 1000 ≤ y.t.toNat) : findL (moreL l n) y = none := findL_no fun x hx => by
  obtain ⟨i, hi, rfl⟩ := List.mem_map.1 hx
  obtain ⟨a1, a2, a3, a4⟩ := moreI_f l (i := i) (by have := List.mem_range.1 hi; omega)
  rw [← Bool.not_eq_true, same_iff, a3]; omega
/-- two that change places -/
def swapL (l : List It) (i k : Nat) : List It := (l.set i (l.getD k noIt)).set k (l.getD i noIt)
theorem swapL_len (l : List It) (i k : Nat) : (swapL l i k).length = l.length := by simp [swapL]
theorem swapL_same (l : List It) {i : Nat} (h : i < l.length) : swapL l i i = l := by
  unfold swapL
  have e : l.getD i noIt = l[i] := by simp [List.getD, h]
  rw [List.set_set, e, List.set_getElem_self]
theorem swapL_bad {l : List It} (h : riseR l) {i k : Nat} (hi : i < l.length) (hk : k < l.length) (hik : i ≠ k) : ¬ riseR (swapL l i k) := by
  have ei : l.getD i noIt = l[i] := by simp [List.getD, hi]
  have ek : l.getD k noIt = l[k] := by simp [List.getD, hk]
  have hl := swapL_len l i k
  have a1 : (swapL l i k)[i]'(by omega) = l[k] := by
    unfold swapL
    rw [List.getElem_set, if_neg (fun h => hik h.symm), List.getElem_set_self, ek]
  have a2 : (swapL l i k)[k]'(by omega) = l[i] := by
    unfold swapL
    rw [List.getElem_set_self, ei]
  intro hr
  rcases Nat.lt_or_ge i k with h1 | h1
  · have h2 := riseR_at hr (i := i) (k := k) (by omega) h1
    rw [a1, a2, less_asym (riseR_at h hk h1)] at h2
    cases h2
  · have h3 : k < i := by omega
    have h2 := riseR_at hr (i := k) (k := i) (by omega) h3
    rw [a1, a2, less_asym (riseR_at h hi h3)] at h2
    cases h2
theorem swapL_make {l : List It} (h : makeE l = 0) {i k : Nat} (hi : i < l.length) (hk : k < l.length) : makeE (swapL l i k) = if i = k then 0 else 1 := by
  obtain ⟨h1, h2, h3, h4⟩ := makeE_ok h
  by_cases hik : i = k
  · subst hik
    rw [if_pos rfl, swapL_same l hi, h]
  · rw [if_neg hik]
    have hb : risesB (swapL l i k) = false := by
      rw [← Bool.not_eq_true]
      exact fun h => swapL_bad h2 hi hk hik (riseR_of h)
    unfold makeE
    rw [if_neg (by rw [swapL_len]; omega), hb]; rfl
end Go.Proofs.YtfmjgkfblejknaaGreat

/-
  The walk of a table's Get.
-/
namespace Go.Proofs.YtfmjgkfblejknaaGreat
open Go.RowKit
set_option linter.unusedVariables false
set_option linter.unusedSimpArgs false

set_option maxRecDepth 100000 in
set_option maxHeartbeats 4000000 in
theorem tget_any (g m rc N d : Nat) (R f : Option Addr) (rs : List Rw) (x : It) (w : World) (hd : w.heap[g]? = some (.cells (tcs R m rc N d f) 74 (0, 0))) (hq : Rd w w.heap.size 1 R m (rwv rs)) (hok : RwOk w rs) (h0 : ∀ r ∈ rs, 0 < r.n ∧ r.n ≤ 1000000) (hm : m ≤ 1000000) (hrise : riseR (rwl rs).flatten) :
    Calls Tryz.prog 20 #[.pointer (some ⟨g, 0, none⟩), .agg #[.int .i64 x.s.toInt, .int .i64 x.k.toInt, .int .u64 (x.t.toNat : Int), .int .u64 (x.v.toNat : Int), .int .i64 x.x.toInt]] w (FindPost (findL (rwl rs).flatten x) w) := by
  have hrl := hq.rlen
  have hrr : ∀ r ∈ rs, riseR r.l := fun r hr => by
    obtain ⟨i, hi, rfl⟩ := List.getElem_of_mem hr
    have h1 := List.pairwise_flatten.1 (riseR_pw hrise)
    have h2 := h1.1 _ (show rs[i].l ∈ rwl rs from List.mem_map_of_mem hr)
    exact riseR_idx fun k hk => List.pairwise_iff_getElem.1 h2 k (k + 1) (by omega) hk (by omega)
  have hz : ∀ z ∈ rwl rs, 0 < z.length := fun z hz => by
    obtain ⟨r, hr, rfl⟩ := List.mem_map.1 hz
    have h1 := (h0 r hr).1
    rw [(hok r hr).1.ilen] at h1
    exact h1
  have hfr := find_rows x (rwl rs) hrise hz
  obtain ⟨G, hG⟩ : ∃ q, q = geR x (rwl rs) := ⟨_, rfl⟩
  have HFR : Hid (findL (rwl rs).flatten x = (if h : G < (rwl rs).length then findL (rwl rs)[G] x else none)) := by show _ = _; rw [hfr]; simp only [hG]
  obtain ⟨res, hres⟩ : ∃ q, q = findL (rwl rs).flatten x := ⟨_, rfl⟩
  rw [← hres] at HFR ⊢
  obtain ⟨w2, hw2⟩ : ∃ w2, w2 = (w.alloc (.cells #[.int .i64 x.s.toInt, .int .i64 x.k.toInt, .int .u64 (x.t.toNat : Int), .int .u64 (x.v.toNat : Int), .int .i64 x.x.toInt] 37)).alloc (.cells #[.int .i64 0, .int .i64 0, .int .u64 0, .int .u64 0, .int .i64 0] 37) := ⟨_, rfl⟩
  have hup2 : Up w w2 := by rw [hw2]; exact ((Up.refl w).alloc _).alloc _
  have hx2 : w2.heap[w.heap.size]? = some (.cells #[.int .i64 x.s.toInt, .int .i64 x.k.toInt, .int .u64 (x.t.toNat : Int), .int .u64 (x.v.toNat : Int), .int .i64 x.x.toInt] 37 (0, 0)) := by
    rw [hw2, Below.heap_alloc _ _ _ (by simp)]; exact heap_alloc_new w _
  have hz2 : w2.heap[w.heap.size + 1]? = some (.cells #[.int .i64 0, .int .i64 0, .int .u64 0, .int .u64 0, .int .i64 0] 37 (0, 0)) := by
    rw [hw2]
    have h := heap_alloc_new (w.alloc (.cells #[.int .i64 x.s.toInt, .int .i64 x.k.toInt, .int .u64 (x.t.toNat : Int), .int .u64 (x.v.toNat : Int), .int .i64 x.x.toInt] 37)) (.cells #[.int .i64 0, .int .i64 0, .int .u64 0, .int .u64 0, .int .i64 0] 37)
    rwa [World.size_alloc] at h
  have hd2 := blk_up hup2 hd
  have hgl := (Array.getElem?_eq_some_iff.1 hd).1
  have hS0 : ∀ o1 o2, ((w.alloc o1).alloc o2).cell? ⟨g, 0, none⟩ = some (.slice R m rc) := fun o1 o2 => blk_cell (blk_up (((Up.refl w).alloc o1).alloc o2) hd) 0
  have hq2 := hq.up hup2
  have hok2 := hok.up hup2
  have HW := Lib.hid hw2
  have HG := Lib.hid hG
  have H0 := Lib.hid h0
  have HRR := Lib.hid hrr
  have HRL := Lib.hid hrl
  have HQB := Lib.hid hq
  have HOK := Lib.hid hok
  clear hw2 hq hok hG h0 hrr hz hfr hres hd hrl hrise
  go_enter Tryz.func20, Tryz.ntmps20
  go_wp2_with fail
  rw [← HW.out]
  clear HW hS0
  have hgw : w.heap.size ≤ w.heap.size + 1 := Nat.le_succ _
  have hgs : w.heap.size + 1 < w2.heap.size := (Array.getElem?_eq_some_iff.1 hz2).1
  generalize hg2 : w.heap.size + 1 = g2 at hz2 hgw hgs ⊢
  have hne12 : w.heap.size ≠ g2 := by omega
  have hneg : g ≠ g2 := by omega
  generalize hg1 : w.heap.size = g1 at hx2 hne12 ⊢
  refine (tgidx_any R m rc rs x g1 w2 hq2 hok2 H0.out (by omega) hx2).mono ?_
  rintro e w3 ⟨rfl, hu3⟩
  rw [← HG.out]
  have hx3 := blk_up hu3 hx2
  have hz3 := blk_up hu3 hz2
  have hd3 := blk_up hu3 hd2
  have hup3 := hup2.trans hu3
  have hg23 : g2 < w3.heap.size := Nat.lt_of_lt_of_le hgs hu3.size
  have hw23 : w.heap.size ≤ w3.heap.size := hup3.size
  clear hx2 hz2 hq2 hd2
  by_cases hlt : G < m
  · rw [if_pos hlt]
    obtain ⟨b, o, r, rfl, hb, hr, hc⟩ := HQB.out.row_at hlt
    have hrm := List.mem_of_getElem? hr
    have hGl : G < (rwl rs).length := by rw [rwl_len]; have := HRL.out; omega
    have hlr : (rwl rs)[G] = r.l := by
      have h1 : (rwl rs)[G]? = some r.l := by simp [rwl, hr]
      rw [List.getElem?_eq_getElem hGl] at h1
      injection h1
    have hfd : res = findL r.l x := by rw [HFR.out, dif_pos hGl, hlr]
    have hn0 := (H0.out r hrm).1
    have hn1 := (H0.out r hrm).2
    have hc3 := (hup3.cell (p := ⟨b, o + G, none⟩) hb).trans hc
    have hrd3 := ((hok2 r hrm).1.up hu3)
    have hrs := HRR.out r hrm
    have HFD := Lib.hid hfd
    have hcs : ∀ W, Rd W W.heap.size 5 r.A r.n (itcs r.l) → Calls Tryz.prog 55 #[.slice r.A r.n r.c, .agg #[.int .i64 x.s.toInt, .int .i64 x.k.toInt, .int .u64 (x.t.toNat : Int), .int .u64 (x.v.toNat : Int), .int .i64 x.x.toInt]] W (FindPost res W) := fun W h => by rw [HFD.out]; exact find_any r.A r.n r.c r.l x W h (by omega) hrs
    have hne : ∀ a, r.A = some a → ¬ (a.block = g2) := fun a ha h => by
      obtain ⟨b9, o9, e9, hb9, -⟩ := (HOK.out r hrm).1.2 hn0
      rw [ha] at e9
      injection e9 with e9
      rw [e9] at h
      have h' : b9 = g2 := h
      omega
    have hbl : b < w3.heap.size := Nat.lt_of_lt_of_le hb hw23
    have hgl3 : g < w3.heap.size := Nat.lt_of_lt_of_le hgl hw23
    have hg13 : g1 < w3.heap.size := (Array.getElem?_eq_some_iff.1 hx3).1
    have hbn : b ≠ g2 := by omega
    have hS : ∀ W, Rg.Keeps (fun k => k = g2) w3.drew W → (W.cell? ⟨g, 0, none⟩ = some (.slice (some ⟨b, o, none⟩) m rc) ∧ W.cell? ⟨b, o + G, none⟩ = some (.slice r.A r.n r.c) ∧ (W.cell? ⟨g1, 0, none⟩ = some (.int .i64 x.s.toInt) ∧ W.cell? ⟨g1, 1, none⟩ = some (.int .i64 x.k.toInt) ∧ W.cell? ⟨g1, 2, none⟩ = some (.int .u64 (x.t.toNat : Int)) ∧ W.cell? ⟨g1, 3, none⟩ = some (.int .u64 (x.v.toNat : Int)) ∧ W.cell? ⟨g1, 4, none⟩ = some (.int .i64 x.x.toInt))) ∧ Rd W W.heap.size 5 r.A r.n (itcs r.l) ∧ Rg.Keeps (fun k => k = g2) w3 W := fun W hK => by
      have hK2 : Rg.Keeps (fun k => k = g2) w3 W := ⟨hK.os, hK.tape, hK.output, hK.size, hK.block⟩
      have h5 := (hK2.block g1 hg13 hne12).trans hx3
      exact ⟨⟨blk_cell ((hK2.block g hgl3 hneg).trans hd3) 0, (World.cell?_of_block (a := ⟨b, o + G, none⟩) (hK2.block b hbl hbn)).trans hc3, blk_cell h5 0, blk_cell h5 1, blk_cell h5 2, blk_cell h5 3, blk_cell h5 4⟩, Rd.keepsX ((HOK.out r hrm).1.stay (Nat.le_refl _) hup3) hw23 hne hK2, hK2⟩
    have d0 : decide ((G : Int) < 0) = false := by simp
    have i1 : (G : Int) < (m : Int) := by omega
    clear hr hrm hGl hlr hfd hn0 hn1 hc3 hrd3 hrs HFD HFR hc hne hbl hgl3 hg13 hbn hx3 hd3 hok2 hu3
    cases res with
    | some i =>
      have hcv : ∀ W, Rd W W.heap.size 5 r.A r.n (itcs r.l) → Calls Tryz.prog 55 #[.slice r.A r.n r.c, .agg #[.int .i64 x.s.toInt, .int .i64 x.k.toInt, .int .u64 (x.t.toNat : Int), .int .u64 (x.v.toNat : Int), .int .i64 x.x.toInt]] W fun e w' => e = .returned (.tuple #[.agg #[.int .i64 i.s.toInt, .int .i64 i.k.toInt, .int .u64 (i.t.toNat : Int), .int .u64 (i.v.toNat : Int), .int .i64 i.x.toInt], .bool true]) ∧ Up W w' := fun W h => (hcs W h).mono fun e w' hp => by
        rcases hp with ⟨j, h1, h2, h3⟩ | ⟨h1, -⟩
        · injection h1 with h1
          subst h1
          exact ⟨h2, h3⟩
        · cases h1
      clear hcs
      go_wp2_with fail
      apply Rg.region_own 13 _ (fun k => k = g2) (fun W => W.heap[g2]? = some (.cells #[.int .i64 0, .int .i64 0, .int .u64 0, .int .u64 0, .int .i64 0] 37 (0, 0))) rfl (by kernel_rfl) (by kernel_rfl) (by rintro k rfl; exact hg23) hz3 (fun w1 w2 h hs => (hs.block g2 (Array.getElem?_eq_some_iff.1 h).1 (.inr rfl)).trans h) hS
      · intro QN hQN
        iterate 8 (apply Rg.RK.ok; (· intro vs w1 hS; go_simp; with_reducible rfl); (· rfl); simp only [Act.put, List.setIfInBounds_toArray, List.set_cons_zero, List.set_cons_succ, Nat.reduceAdd])
        apply Rg.RK.call (.tuple #[.agg #[.int .i64 i.s.toInt, .int .i64 i.k.toInt, .int .u64 (i.t.toNat : Int), .int .u64 (i.v.toNat : Int), .int .i64 i.x.toInt], .bool true]) []
        · rfl
        · intro vs w1 hK hS _ K hKK
          go_simp
          refine (hcv w1 hS.2.1).mono ?_
          rintro e w2 ⟨rfl, hu2⟩
          exact hKK.out _ hu2
        simp only [Act.put, List.setIfInBounds_toArray, List.set_cons_zero, List.set_cons_succ, Nat.reduceAdd]
        iterate 2 (apply Rg.RK.ok; (· intro vs w1 hS; go_simp; with_reducible rfl); (· rfl); simp only [Act.put, List.setIfInBounds_toArray, List.set_cons_zero, List.set_cons_succ, Nat.reduceAdd])
        apply Rg.RK.opD (fun vs W => W.heap[g2]? = some (.cells #[.int .i64 i.s.toInt, .int .i64 i.k.toInt, .int .u64 (i.t.toNat : Int), .int .u64 (i.v.toNat : Int), .int .i64 i.x.toInt] 37 (0, 0))) (fun vs k => k = g2) [13] [13] [] (fun _ _ _ => ⟨rfl, rfl⟩)
        · exact fun vs W1 W2 h hs => (hs.block g2 (Array.getElem?_eq_some_iff.1 h).1 (.inr rfl)).trans h
        · rfl
        · intro vs w5 hK hS hf K hKK
          have hh : w5.heap[g2]? = some (.cells #[.int .i64 0, .int .i64 0, .int .u64 0, .int .u64 0, .int .i64 0] 37 (0, 0)) := hf.1
          have q0 := blk_cell hh
          have q1 := blk_free hh
          go_simp
          have h5 := set5 w5 g2 _ _ _ _ _ (.int .i64 i.s.toInt) (.int .i64 i.k.toInt) (.int .u64 (i.t.toNat : Int)) (.int .u64 (i.v.toNat : Int)) (.int .i64 i.x.toInt) _ hh
          refine hKK.out undef _ h5.1 (Keeps.weak h5.2 fun y hy => ⟨13, List.mem_singleton.2 rfl, hy⟩) (fun y hy => ⟨?_, .inr ⟨13, List.mem_singleton.2 rfl, hy⟩⟩)
          have hyy : y = g2 := hy
          rw [hyy]; exact (Array.getElem?_eq_some_iff.1 h5.1).1
        simp only [Act.put, List.setIfInBounds_toArray, List.set_cons_zero, List.set_cons_succ, Nat.reduceAdd]
        iterate 1 (apply Rg.RK.ok; (· intro vs w1 hS; go_simp; with_reducible rfl); (· rfl); simp only [Act.put, List.setIfInBounds_toArray, List.set_cons_zero, List.set_cons_succ, Nat.reduceAdd])
        apply Rg.RK.fin [11]
        intro vs w8 hK hS hf
        obtain ⟨hgd, -⟩ := hf
        have hgd' : w8.heap[g2]? = some (.cells #[.int .i64 i.s.toInt, .int .i64 i.k.toInt, .int .u64 (i.t.toNat : Int), .int .u64 (i.v.toNat : Int), .int .i64 i.x.toInt] 37 (0, 0)) := hgd
        refine hQN.out _ _ ?_
        clear hQN hgd hK
        have hup8 := keepsUpG hup3 hgw hS.2.2
        have e0 := blk_cell hgd' 0
        have e1 := blk_cell hgd' 1
        have e2 := blk_cell hgd' 2
        have e3 := blk_cell hgd' 3
        have e4 := blk_cell hgd' 4
        have f0 := blk_free hgd' 0
        have f1 := blk_free hgd' 1
        have f2 := blk_free hgd' 2
        have f3 := blk_free hgd' 3
        have f4 := blk_free hgd' 4
        simp only [List.getElem?_toArray, List.getElem?_cons_zero, List.getElem?_cons_succ] at e0 e1 e2 e3 e4
        clear hgd'
        go_wp2_with fail
        refine bodyPost_ret (v := .tuple #[.agg #[.int .i64 i.s.toInt, .int .i64 i.k.toInt, .int .u64 (i.t.toNat : Int), .int .u64 (i.v.toNat : Int), .int .i64 i.x.toInt], .bool true]) (by simp [results, Tryz.results20, go_sem, e0, e1, e2, e3, e4]) rfl ?_
        exact .inl ⟨i, rfl, rfl, hup8⟩
      · kernel_rfl
    | none =>
      have hcv : ∀ W, Rd W W.heap.size 5 r.A r.n (itcs r.l) → Calls Tryz.prog 55 #[.slice r.A r.n r.c, .agg #[.int .i64 x.s.toInt, .int .i64 x.k.toInt, .int .u64 (x.t.toNat : Int), .int .u64 (x.v.toNat : Int), .int .i64 x.x.toInt]] W fun e w' => e = .returned (.tuple #[.agg #[.int .i64 0, .int .i64 0, .int .u64 0, .int .u64 0, .int .i64 0], .bool false]) ∧ Up W w' := fun W h => (hcs W h).mono fun e w' hp => by
        rcases hp with ⟨j, h1, h2, h3⟩ | ⟨h1, h2⟩
        · cases h1
        · exact h2
      clear hcs
      go_wp2_with fail
      apply Rg.region_own 13 _ (fun k => k = g2) (fun W => W.heap[g2]? = some (.cells #[.int .i64 0, .int .i64 0, .int .u64 0, .int .u64 0, .int .i64 0] 37 (0, 0))) rfl (by kernel_rfl) (by kernel_rfl) (by rintro k rfl; exact hg23) hz3 (fun w1 w2 h hs => (hs.block g2 (Array.getElem?_eq_some_iff.1 h).1 (.inr rfl)).trans h) hS
      · intro QN hQN
        iterate 8 (apply Rg.RK.ok; (· intro vs w1 hS; go_simp; with_reducible rfl); (· rfl); simp only [Act.put, List.setIfInBounds_toArray, List.set_cons_zero, List.set_cons_succ, Nat.reduceAdd])
        apply Rg.RK.call (.tuple #[.agg #[.int .i64 0, .int .i64 0, .int .u64 0, .int .u64 0, .int .i64 0], .bool false]) []
        · rfl
        · intro vs w1 hK hS _ K hKK
          go_simp
          refine (hcv w1 hS.2.1).mono ?_
          rintro e w2 ⟨rfl, hu2⟩
          exact hKK.out _ hu2
        simp only [Act.put, List.setIfInBounds_toArray, List.set_cons_zero, List.set_cons_succ, Nat.reduceAdd]
        iterate 2 (apply Rg.RK.ok; (· intro vs w1 hS; go_simp; with_reducible rfl); (· rfl); simp only [Act.put, List.setIfInBounds_toArray, List.set_cons_zero, List.set_cons_succ, Nat.reduceAdd])
        apply Rg.RK.opD (fun vs W => W.heap[g2]? = some (.cells #[.int .i64 0, .int .i64 0, .int .u64 0, .int .u64 0, .int .i64 0] 37 (0, 0))) (fun vs k => k = g2) [13] [13] [] (fun _ _ _ => ⟨rfl, rfl⟩)
        · exact fun vs W1 W2 h hs => (hs.block g2 (Array.getElem?_eq_some_iff.1 h).1 (.inr rfl)).trans h
        · rfl
        · intro vs w5 hK hS hf K hKK
          have hh : w5.heap[g2]? = some (.cells #[.int .i64 0, .int .i64 0, .int .u64 0, .int .u64 0, .int .i64 0] 37 (0, 0)) := hf.1
          have q0 := blk_cell hh
          have q1 := blk_free hh
          go_simp
          have h5 := set5 w5 g2 _ _ _ _ _ (.int .i64 0) (.int .i64 0) (.int .u64 0) (.int .u64 0) (.int .i64 0) _ hh
          refine hKK.out undef _ h5.1 (Keeps.weak h5.2 fun y hy => ⟨13, List.mem_singleton.2 rfl, hy⟩) (fun y hy => ⟨?_, .inr ⟨13, List.mem_singleton.2 rfl, hy⟩⟩)
          have hyy : y = g2 := hy
          rw [hyy]; exact (Array.getElem?_eq_some_iff.1 h5.1).1
        simp only [Act.put, List.setIfInBounds_toArray, List.set_cons_zero, List.set_cons_succ, Nat.reduceAdd]
        iterate 1 (apply Rg.RK.ok; (· intro vs w1 hS; go_simp; with_reducible rfl); (· rfl); simp only [Act.put, List.setIfInBounds_toArray, List.set_cons_zero, List.set_cons_succ, Nat.reduceAdd])
        apply Rg.RK.fin [11]
        intro vs w8 hK hS hf
        obtain ⟨hgd, -⟩ := hf
        have hgd' : w8.heap[g2]? = some (.cells #[.int .i64 0, .int .i64 0, .int .u64 0, .int .u64 0, .int .i64 0] 37 (0, 0)) := hgd
        refine hQN.out _ _ ?_
        clear hQN hgd hK
        have hup8 := keepsUpG hup3 hgw hS.2.2
        have e0 := blk_cell hgd' 0
        have e1 := blk_cell hgd' 1
        have e2 := blk_cell hgd' 2
        have e3 := blk_cell hgd' 3
        have e4 := blk_cell hgd' 4
        have f0 := blk_free hgd' 0
        have f1 := blk_free hgd' 1
        have f2 := blk_free hgd' 2
        have f3 := blk_free hgd' 3
        have f4 := blk_free hgd' 4
        simp only [List.getElem?_toArray, List.getElem?_cons_zero, List.getElem?_cons_succ] at e0 e1 e2 e3 e4
        clear hgd'
        go_wp2_with fail
        refine bodyPost_ret (v := .tuple #[.agg #[.int .i64 0, .int .i64 0, .int .u64 0, .int .u64 0, .int .i64 0], .bool false]) (by simp [results, Tryz.results20, go_sem, e0, e1, e2, e3, e4]) rfl ?_
        exact .inr ⟨rfl, rfl, hup8⟩
      · kernel_rfl
  · rw [if_neg hlt]
    have hfd : res = none := by rw [HFR.out, dif_neg (by rw [rwl_len]; have := HRL.out; omega)]
    subst hfd
    have d0 : decide ((-1 : Int) < 0) = true := rfl
    clear HFR
    go_wp2_with (first
      | (with_reducible show wpList _ _ _ (⟨none, .store 37 _ _, _, _, _, none⟩ :: _) _ _
         go_loud (refine wpList_store_it5 rfl _ _ rfl (g := g2) (z0 := .int .i64 0) (z1 := .int .i64 0) (z2 := .int .u64 0) (z3 := .int .u64 0) (z4 := .int .i64 0) (by kernel_rfl) (by kernel_rfl) hz3 (by simp [Value.oneCell']) ?_)
         intro w5 hgd hbut
         have hup5 := But.up hup3 hbut hgw
         clear hbut hz3
         have e0 := blk_cell hgd 0
         have e1 := blk_cell hgd 1
         have e2 := blk_cell hgd 2
         have e3 := blk_cell hgd 3
         have e4 := blk_cell hgd 4
         have f0 := blk_free hgd 0
         have f1 := blk_free hgd 1
         have f2 := blk_free hgd 2
         have f3 := blk_free hgd 3
         have f4 := blk_free hgd 4
         simp only [List.getElem?_toArray, List.getElem?_cons_zero, List.getElem?_cons_succ] at e0 e1 e2 e3 e4
         clear hgd))
    refine bodyPost_ret (v := .tuple #[.agg #[.int .i64 0, .int .i64 0, .int .u64 0, .int .u64 0, .int .i64 0], .bool false]) (by simp [results, Tryz.results20, go_sem, e0, e1, e2, e3, e4]) rfl ?_
    exact .inr ⟨rfl, rfl, hup5⟩
end Go.Proofs.YtfmjgkfblejknaaGreat

/-
  The walks of slices.Clip at items, of a table's Range, of a filter's Has.
-/
namespace Go.Proofs.YtfmjgkfblejknaaGreat
open Go.RowKit
set_option linter.unusedVariables false
set_option linter.unusedSimpArgs false

set_option maxRecDepth 100000 in
theorem clipi_any (A : Option Addr) (n c : Nat) (w : World) (h : n ≤ c) (hn : n ≤ 1000000) :
    Calls Tryz.prog 56 #[.slice A n c] w fun e w' => e = .returned (.slice A n n) ∧ w = w' := by
  go_enter Tryz.func56, Tryz.ntmps56
  go_wp2_with fail
  go_ret
  exact ⟨rfl, rfl⟩
set_option maxRecDepth 100000 in
set_option maxHeartbeats 4000000 in
theorem trange_any (g m rc N d : Nat) (R f : Option Addr) (rs : List Rw) (a b : It) (w : World) (hd : w.heap[g]? = some (.cells (tcs R m rc N d f) 74 (0, 0))) (hq : Rd w w.heap.size 1 R m (rwv rs)) (hok : RwOk w rs) (ht : (flL rs).length ≤ 1000000) (hm : m ≤ 9223372036854775807) :
    Calls Tryz.prog 21 #[.pointer (some ⟨g, 0, none⟩), .agg #[.int .i64 a.s.toInt, .int .i64 a.k.toInt, .int .u64 (a.t.toNat : Int), .int .u64 (a.v.toNat : Int), .int .i64 a.x.toInt], .agg #[.int .i64 b.s.toInt, .int .i64 b.k.toInt, .int .u64 (b.t.toNat : Int), .int .u64 (b.v.toNat : Int), .int .i64 b.x.toInt]] w fun e w' => ∃ A n, e = .returned (.slice A n n) ∧ Rd w' w'.heap.size 5 A n (itcs (rangeL (flL rs) a b)) ∧ (∀ x : Addr, A = some x → w.heap.size ≤ x.block ∧ x.block < w'.heap.size) ∧ Up w w' := by
  obtain ⟨w2, hw2⟩ : ∃ w2, w2 = (w.alloc (.cells #[.int .i64 a.s.toInt, .int .i64 a.k.toInt, .int .u64 (a.t.toNat : Int), .int .u64 (a.v.toNat : Int), .int .i64 a.x.toInt] 37)).alloc (.cells #[.int .i64 b.s.toInt, .int .i64 b.k.toInt, .int .u64 (b.t.toNat : Int), .int .u64 (b.v.toNat : Int), .int .i64 b.x.toInt] 37) := ⟨_, rfl⟩
  have hup2 : Up w w2 := by rw [hw2]; exact ((Up.refl w).alloc _).alloc _
  have ha2 : w2.heap[w.heap.size]? = some (.cells #[.int .i64 a.s.toInt, .int .i64 a.k.toInt, .int .u64 (a.t.toNat : Int), .int .u64 (a.v.toNat : Int), .int .i64 a.x.toInt] 37 (0, 0)) := by
    rw [hw2, Below.heap_alloc _ _ _ (by simp)]; exact heap_alloc_new w _
  have hb2 : w2.heap[w.heap.size + 1]? = some (.cells #[.int .i64 b.s.toInt, .int .i64 b.k.toInt, .int .u64 (b.t.toNat : Int), .int .u64 (b.v.toNat : Int), .int .i64 b.x.toInt] 37 (0, 0)) := by
    rw [hw2]
    have h := heap_alloc_new (w.alloc (.cells #[.int .i64 a.s.toInt, .int .i64 a.k.toInt, .int .u64 (a.t.toNat : Int), .int .u64 (a.v.toNat : Int), .int .i64 a.x.toInt] 37)) (.cells #[.int .i64 b.s.toInt, .int .i64 b.k.toInt, .int .u64 (b.t.toNat : Int), .int .u64 (b.v.toNat : Int), .int .i64 b.x.toInt] 37)
    rwa [World.size_alloc] at h
  have hall := tall_any g m rc N d R f rs w2 (blk_up hup2 hd) (hq.up hup2) (hok.up hup2) ht hm
  have HALL := Lib.hid hall
  have HT := Lib.hid ht
  have HW := Lib.hid hw2
  generalize flL rs = l at *
  clear hd hq hok hw2 hall ht
  go_enter Tryz.func21, Tryz.ntmps21
  go_wp2_with fail
  rw [← HW.out]
  clear HW
  generalize w.heap.size + 1 = g2 at hb2 ⊢
  generalize hg1 : w.heap.size = g1 at ha2 ⊢
  refine HALL.out.mono ?_
  rintro e w3 ⟨A, c, rfl, hI, hu3⟩
  have ha3 := blk_up hu3 ha2
  have hb3 := blk_up hu3 hb2
  have hup3 := hup2.trans hu3
  obtain ⟨n, hn⟩ : ∃ n, n = l.length := ⟨_, rfl⟩
  rw [← hn] at hI HT ⊢
  have hrd := Rd.own hI
  have nil0 : OwnI w3 w3.heap.size none 0 0 (rangeL (l.take 0) a b) := World.ownsRow_nil _ _ _ _
  have HN := Lib.hid hn
  have NIL := Lib.hid nil0
  have hn6 := HT.out
  clear HALL hI hn nil0 hu3 hup2 ha2 hb2 HT
  go_wp2_with fail
  go_loopw [7, 13] (fun out i wr => ∃ (k j : Nat) (Q : Option Addr) (qc : Nat), i = .int .i64 (k : Int) ∧ out = .slice Q j qc ∧ k ≤ n ∧ OwnI wr w3.heap.size Q j qc (rangeL (l.take k) a b) ∧ Up w3 wr) (fun _ i _ => n - (intOf i).toNat)
  case atStart => exact ⟨0, 0, none, 0, rfl, rfl, by omega, NIL.out, Up.refl _⟩
  case round =>
    obtain ⟨k, j, Q, qc, rfl, rfl, hk, hown, hu⟩ := hrel
    by_cases hlt : k < n
    · have i1 : (k : Int) < (n : Int) := by omega
      obtain ⟨b1, o1, x, rfl, hb1, hik, c0, c1, c2, c3, c4⟩ := (hrd.stay (Nat.le_refl _) hu).item_at hlt
      have hkl : k < l.length := by have := HN.out; omega
      have hx : l[k] = x := by rw [List.getElem?_eq_getElem hkl] at hik; injection hik
      have hsn := rangeL_snoc l k hkl a b
      rw [hx] at hsn
      have hjl : j ≤ k := by
        have h1 := OwnI.ilen hown
        have h2 := rangeL_len (l.take k) a b
        rw [List.length_take] at h2; omega
      have HSN := Lib.hid hsn
      have har := blk_up hu ha3
      have hbr := blk_up hu hb3
      have hS1 : ∀ o, (wr.alloc o).cell? ⟨g1, 0, none⟩ = some (.int .i64 a.s.toInt) ∧ (wr.alloc o).cell? ⟨g1, 1, none⟩ = some (.int .i64 a.k.toInt) ∧ (wr.alloc o).cell? ⟨g1, 2, none⟩ = some (.int .u64 (a.t.toNat : Int)) ∧ (wr.alloc o).cell? ⟨g1, 3, none⟩ = some (.int .u64 (a.v.toNat : Int)) ∧ (wr.alloc o).cell? ⟨g1, 4, none⟩ = some (.int .i64 a.x.toInt) := fun o => by
        have h := blk_up ((Up.refl wr).alloc o) har
        exact ⟨blk_cell h 0, blk_cell h 1, blk_cell h 2, blk_cell h 3, blk_cell h 4⟩
      have hup := hup3.trans hu
      clear hik hx hsn
      go_wp2_with fail
      refine (less_any x a _).mono ?_
      rintro e w4 ⟨rfl, hu4⟩
      have hx4 := item_held wr x rfl w4 hu4
      have hu04 : Up wr w4 := ((Up.refl wr).alloc _).trans hu4
      have hb4 := blk_up hu04 hbr
      have e0 := blk_cell hb4 0
      have e1 := blk_cell hb4 1
      have e2 := blk_cell hb4 2
      have e3 := blk_cell hb4 3
      have e4 := blk_cell hb4 4
      simp only [List.getElem?_toArray, List.getElem?_cons_zero, List.getElem?_cons_succ] at e0 e1 e2 e3 e4
      have hown4 := own_up hown hu04
      have hup4 := hup.trans hu04
      have hur4 := hu.trans hu04
      clear hS1 hb4 hbr har c0 c1 c2 c3 c4 hup hu hown
      by_cases la : lessB x a = true
      · have hsk : rangeL (l.take (k + 1)) a b = rangeL (l.take k) a b := by rw [HSN.out, la]; simp
        rw [la]
        rw [← hsk] at hown4
        clear HSN hsk la
        go_wp2_with fail
        go_roundw
        case rel => exact ⟨k + 1, j, Q, qc, by go_num, rfl, by omega, hown4, hur4⟩
        case measure => simp [intOf]; omega
      · rw [Bool.not_eq_true] at la
        rw [la]
        go_wp2_with fail
        refine (less_any b x _).mono ?_
        rintro e w5 ⟨rfl, hu5⟩
        have hx5 := item_held wr x rfl w5 (hu4.trans hu5)
        have hown5 := own_up hown4 hu5
        have hup5 := hup4.trans hu5
        have hur5 := hur4.trans hu5
        clear hx4 e0 e1 e2 e3 e4 hown4 hup4 hur4 hu04
        by_cases lb : lessB b x = true
        · have hsk : rangeL (l.take (k + 1)) a b = rangeL (l.take k) a b := by rw [HSN.out, lb]; simp
          rw [lb]
          rw [← hsk] at hown5
          clear HSN hsk lb la
          go_wp2_with fail
          go_roundw
          case rel => exact ⟨k + 1, j, Q, qc, by go_num, rfl, by omega, hown5, hur5⟩
          case measure => simp [intOf]; omega
        · rw [Bool.not_eq_true] at lb
          have hsk : rangeL (l.take (k + 1)) a b = rangeL (l.take k) a b ++ [x] := by rw [HSN.out, la, lb]; simp
          rw [lb]
          have HSK := Lib.hid hsk
          clear HSN hsk lb la
          go_wp2_with (at_builtin; refine wpList_append_rd _ itemsT (news := itcs [x]) (World.ownsRow.alloc hown5 _) (Rd.ilit_at _ [x] _ _ (by simp) rfl) (itcs_one _) (by simp; omega) (by simp; omega) (by simp; have := hur5.size; omega) rfl rfl rfl rfl ?_; intro v6 w6 hown6 hg6 hat6; obtain ⟨R6, d6, rfl⟩ := own_form hown6)
          have hu6 : Up w3 w6 := (hur5.alloc _).grown hg6 (fun g hg => (World.ownsRow.lt hown5 g hg).1)
          have hown7 : OwnI w6 w3.heap.size R6 (j + 1) d6 (rangeL (l.take (k + 1)) a b) := by
            unfold OwnI
            rw [HSK.out, itcs_append]
            exact hown6
          go_roundw
          case rel => exact ⟨k + 1, j + 1, R6, d6, by go_num, rfl, by omega, hown7, hu6⟩
          case measure => simp [intOf]; omega
    · have i1 : ¬ (k : Int) < (n : Int) := by omega
      obtain rfl : k = n := by omega
      have hall : l.take k = l := List.take_of_length_le (by have := HN.out; omega)
      rw [hall] at hown
      have hjl : j ≤ k := by
        have h1 := OwnI.ilen hown
        have h2 := rangeL_len l a b
        have := HN.out; omega
      have hcl := own_cap hown
      go_wp2_with fail
      refine (clipi_any Q j qc wr hcl (by omega)).mono ?_
      rintro e w4 ⟨rfl, rfl⟩
      go_wp2_with fail
      go_ret
      have hnew : ∀ x : Addr, Q = some x → w.heap.size ≤ x.block ∧ x.block < wr.heap.size := fun x hx => by
        have h3 := hup3.size
        rcases hown.2 with ⟨h1, -⟩ | ⟨gR, cap, cur, h1, h2, h4, -⟩
        · injection h1 with h1
          rw [hx] at h1; cases h1
        · injection h1 with h1
          rw [hx] at h1
          injection h1 with h1
          subst h1
          exact ⟨Nat.le_trans h3 h2, (Array.getElem?_eq_some_iff.1 h4).1⟩
      exact ⟨Q, j, rfl, Rd.own hown, hnew, hup3.trans hu⟩
end Go.Proofs.YtfmjgkfblejknaaGreat

/-
  The walks of a filter's Has, where the key is there.
-/
namespace Go.Proofs.YtfmjgkfblejknaaGreat
open Go.RowKit
set_option linter.unusedVariables false
set_option linter.unusedSimpArgs false

theorem has_bit (x : UInt8) (r : Nat) (h : (x.toNat / 2 ^ r % 2 == 1) = true) : (bits .and .u8 ((x.toNat : Int) / 2 ^ r) 1 == 0) = false := by
  have h1 := beq_iff_eq.1 h
  have hx := x.toNat_lt
  have hq : x.toNat / 2 ^ r ≤ x.toNat := Nat.div_le_self _ _
  have e1 : (x.toNat : Int) / 2 ^ r = ((x.toNat / 2 ^ r : Nat) : Int) := by rw [Int.natCast_ediv]; simp
  have e2 := u8_and_nat (x.toNat / 2 ^ r) 1 (by omega) (by omega)
  rw [e1]
  rw [show ((1 : Nat) : Int) = 1 from rfl] at e2
  rw [e2, Nat.and_one_is_mod, h1]
  rfl
set_option maxRecDepth 100000 in
set_option maxHeartbeats 1600000 in
theorem has1_any (B g b pb : Nat) (bs : List UInt8) (w : World) (hf : FilAt B g b bs w) (hp : w.cell? ⟨pb, 0, none⟩ = some (.pointer (some ⟨g, 0, none⟩))) (p : Nat) (hp8 : p < bs.length * 8) (hb1 : bs.length ≤ 3000) (hh : hasP bs p = true) :
    Calls Tryz.prog 79 #[.int .i64 (p : Int), .pointer (some ⟨pb, 0, none⟩)] w fun e w' => e = .returned (.bool false) ∧ w = w' := by
  obtain ⟨L, hL⟩ : ∃ L, L = bs.length := ⟨_, rfl⟩
  have k1 : w.cell? ⟨g, 1, none⟩ = some (.slice (some ⟨b, 0, none⟩) L L) := by rw [hL]; exact blk_cell hf.1 1
  obtain ⟨j, hj⟩ : ∃ j, j = p / 8 := ⟨_, rfl⟩
  obtain ⟨r, hr⟩ : ∃ r, r = p % 8 := ⟨_, rfl⟩
  have hr8 : r < 8 := by omega
  have hjL : j < L := by omega
  have hjI : (j : Int) < (L : Int) := by omega
  have hpl : j < bs.length := by omega
  obtain ⟨b0, hb0⟩ : ∃ b0, b0 = bs.getD j 0 := ⟨_, rfl⟩
  have kb : w.cell? ⟨b, j, none⟩ = some (.int .u8 (b0.toNat : Int)) := by rw [hb0]; exact hf.2.1.cell hpl
  have hbit : (b0.toNat / 2 ^ r % 2 == 1) = true := by unfold hasP at hh; rw [← hj, ← hr, ← hb0] at hh; exact hh
  have a2 : IntKind.i64.wrap (p : Int) = (p : Int) := IntWalk.i64_in _ (by omega)
  have a3 : (p : Int) / 8 = (j : Int) := by omega
  have a4 : (p : Int) % 8 = (r : Int) := by omega
  have a5 : Int.tdiv (p : Int) 8 = (j : Int) := by rw [Int.tdiv_eq_ediv_of_nonneg (by omega)]; exact a3
  have a6 : Int.tmod (p : Int) 8 = (r : Int) := by rw [Int.tmod_eq_emod_of_nonneg (by omega)]; exact a4
  have a7 : IntKind.i64.wrap (j : Int) = (j : Int) := IntWalk.i64_in _ (by omega)
  have a8 : IntKind.i64.wrap (r : Int) = (r : Int) := IntWalk.i64_in _ (by omega)
  have HB := Lib.hid hbit
  have hb9 := has_bit b0 r hbit
  clear hf hh hL hj hr hb0 hpl hp8 hb1 hbit
  go_enter Tryz.func79, Tryz.ntmps79
  go_wp2_with fail
  go_ret
  exact ⟨rfl, rfl⟩
set_option maxRecDepth 100000 in
set_option maxHeartbeats 1600000 in
theorem hidx_any (B g b pb : Nat) (bs : List UInt8) (w : World) (hf : FilAt B g b bs w) (hp : w.cell? ⟨pb, 0, none⟩ = some (.pointer (some ⟨g, 0, none⟩))) (hb1 : bs.length ≤ 3000) (R : Option Addr) (n c : Nat) (ps : List Nat) (hr : Rd w w.heap.size 1 R n (nvi ps)) (hn : n ≤ 1000) (hlt : ∀ p ∈ ps, p < bs.length * 8) (hh : ps.all (hasP bs) = true) :
    Calls Tryz.prog 97 #[.slice R n c, .func (.func 79) #[] #[.pointer (some ⟨pb, 0, none⟩)]] w fun e w' => e = .returned (.int .i64 (-1)) ∧ w = w' := by
  have hl : n = ps.length := by have := hr.1; simp [nvi] at this; omega
  have H1 : Hid (∀ k (h : k < ps.length), Calls Tryz.prog 79 #[.int .i64 (ps[k] : Int), .pointer (some ⟨pb, 0, none⟩)] w fun e w' => e = .returned (.bool false) ∧ w = w') := fun k h => has1_any B g b pb bs w hf hp ps[k] (hlt _ (List.getElem_mem h)) hb1 (List.all_eq_true.1 hh _ (List.getElem_mem h))
  have HL := Lib.hid hl
  have HR := Lib.hid hr
  clear hf hp hlt hh hl hr
  go_enter Tryz.func97, Tryz.ntmps97
  go_wp2_with fail
  go_loop [8] (fun i => ∃ k : Nat, i = .int .i64 (k : Int) ∧ k ≤ n) (fun i => n - (intOf i).toNat)
  case atStart => exact ⟨0, rfl, by omega⟩
  case round =>
    obtain ⟨k, rfl, hk⟩ := hrel
    by_cases hlt : k < n
    · have hkl : k < ps.length := by have := HL.out; omega
      have h1 := H1.out k hkl
      obtain ⟨b2, o2, rfl, hb2, hc2⟩ := HR.out.2 (by omega)
      have hc : w.cell? ⟨b2, o2 + k, none⟩ = some (.int .i64 (ps[k] : Int)) := hc2 k _ (by simp [nvi, hkl])
      generalize ps[k] = p at *
      have i1 : (k : Int) < (n : Int) := by omega
      have HH := Lib.hid h1
      clear hc2 h1
      go_wp2_with fail
      refine HH.out.mono ?_
      rintro e w2 ⟨rfl, rfl⟩
      go_wp2_with fail
      go_round
      case rel => exact ⟨k + 1, by go_num, by omega⟩
      case measure => simp [intOf]; omega
    · have i1 : ¬ (k : Int) < (n : Int) := by omega
      go_wp2_with fail
      go_ret
      exact ⟨rfl, rfl⟩
set_option maxRecDepth 100000 in
set_option maxHeartbeats 1600000 in
theorem fhas_yes (B g b : Nat) (bs : List UInt8) (A : Option Addr) (n c : Nat) (key : List UInt8) (w : World) (hf : FilAt B g b bs w) (hk : Rd w w.heap.size 1 A n (bvs key)) (hn : n ≤ 1000) (hb0 : 0 < bs.length) (hb1 : bs.length ≤ 3000) (hh : hasF bs key = true) :
    Calls Tryz.prog 50 #[.pointer (some ⟨g, 0, none⟩), .slice A n c] w fun e w' => e = .returned (.bool true) ∧ Up w w' := by
  obtain ⟨w2, hw2⟩ : ∃ w2, w2 = w.alloc (.cells #[.pointer (some ⟨g, 0, none⟩)] 72) := ⟨_, rfl⟩
  have hup2 : Up w w2 := by rw [hw2]; exact (Up.refl w).alloc _
  have hp2 : w2.heap[w.heap.size]? = some (.cells #[.pointer (some ⟨g, 0, none⟩)] 72 (0, 0)) := by rw [hw2]; exact heap_alloc_new w _
  have hpl := places_any B g b bs A n c key w2 (hf.up hup2) (hk.up hup2) hn hb0 hb1
  have HPL := Lib.hid hpl
  have HW := Lib.hid hw2
  have HF := Lib.hid (hf.up hup2)
  have HH := Lib.hid hh
  clear hpl hf hk hw2 hh
  go_enter Tryz.func50, Tryz.ntmps50
  go_wp2_with fail
  rw [← HW.out]
  generalize w.heap.size = pb at hp2 ⊢
  refine HPL.out.mono ?_
  rintro e w3 ⟨R, rc, rfl, hown, hu3⟩
  have hidx := hidx_any B g b pb bs w3 (HF.out.up hu3) (blk_cell (blk_up hu3 hp2) 0) hb1 R 7 rc _ (Rd.own hown) (by omega) (fun p hp => keyP_lt (by omega) hp) HH.out
  have HI := Lib.hid hidx
  clear hown hidx
  go_wp2_with (first | (go_at_call 77; go_in) | (go_at_call 97; refine HI.out.mono ?_; rintro e w4 ⟨rfl, rfl⟩))
  go_ret
  exact ⟨rfl, hup2.trans hu3⟩
end Go.Proofs.YtfmjgkfblejknaaGreat

/-
  The walk of law12's rising: the Ok items of a list, merged.
-/
namespace Go.Proofs.YtfmjgkfblejknaaGreat
open Go.RowKit
set_option linter.unusedVariables false
set_option linter.unusedSimpArgs false

set_option maxRecDepth 100000 in
set_option maxHeartbeats 3200000 in
theorem rising12_any (A : Option Addr) (n c : Nat) (l : List It) (w : World) (hr : Rd w w.heap.size 5 A n (itcs l)) (hnc : n ≤ c) (hn : n ≤ 3518437208780) :
    Calls Tryz.prog 8 #[.slice A n c] w fun e w' => ∃ R rn rc, e = .returned (.slice R rn rc) ∧ OwnI w' w.heap.size R rn rc (qL l) ∧ Up w w' := by
  have HL := Lib.hid hr.ilen
  obtain ⟨b, o, hbo⟩ : ∃ b o, 0 < n → A = some ⟨b, o, none⟩ := by
    rcases Nat.eq_zero_or_pos n with h | h
    · exact ⟨0, 0, fun h' => by omega⟩
    · obtain ⟨b, o, e, _⟩ := hr.2 h
      exact ⟨b, o, fun _ => e⟩
  have HBO := Lib.hid hbo
  clear hbo
  go_enter Tryz.func8, Tryz.ntmps8
  go_wp2_with fail
  go_loopw [3, 4] (fun v i wr => ∃ (k : Nat) (V : Option Addr) (m vc : Nat) (ps : List (Nat × Nat)), i = .int .i64 (k : Int) ∧ v = .slice V m vc ∧ k ≤ n ∧ m ≤ k ∧ wr.ownsRow w.heap.size 23 1 (.slice V m vc) m (rowsV b o ps) ∧ Hid (∀ r ∈ ps, r.1 < n ∧ 1 ≤ r.2) ∧ Hid (pick l ps = (l.take k).filter okB) ∧ Up w wr) (fun _ i _ => n - (intOf i).toNat)
  case atStart => exact ⟨0, none, 0, 0, [], rfl, rfl, by omega, by omega, World.ownsRow_nil _ _ _ _, fun r hr => (by cases hr), rfl, Up.refl _⟩
  case round =>
    obtain ⟨k, V, m, vc, ps, rfl, rfl, hk, hmk, hown, hps, hpk, hu⟩ := hrel
    by_cases hlt : k < n
    · obtain ⟨b1, o1, x, hA, hb, hx, c0, c1, c2, c3, c4⟩ := (hr.up hu).item_at hlt
      have hA2 := HBO.out (by omega)
      rw [hA] at hA2
      injection hA2 with hA2
      injection hA2 with e1 e2
      subst e1; subst e2
      subst hA
      have hkl : k < l.length := by have := HL.out; omega
      have hxD := getD_it hx
      have htk : l.take (k + 1) = l.take k ++ [x] := by
        rw [List.take_succ_eq_append_getElem hkl]
        rw [List.getElem?_eq_getElem hkl] at hx
        injection hx with hx
        rw [hx]
      have HXD := Lib.hid hxD
      have HTK := Lib.hid htk
      have hki : (k : Int) < (n : Int) := by omega
      obtain ⟨ob, hob⟩ : ∃ q, q = okB x := ⟨_, rfl⟩
      have HOB := Lib.hid hob
      clear hx hxD htk hob
      go_wp2_with fail
      clear c0 c1 c2 c3 c4
      refine (rok_any x wr).mono ?_
      rintro e w2 ⟨rfl, hu2⟩
      rw [← HOB.out]
      cases ob
      · go_wp2_with fail
        go_roundw
        case rel =>
          refine ⟨k + 1, V, m, vc, ps, by go_num, rfl, by omega, by omega, own_up hown hu2, hps, ?_, hu.trans hu2⟩
          show _ = _
          rw [HTK.out, List.filter_append, hpk.out, List.filter_cons, ← HOB.out]
          simp
        case measure => simp [intOf]; omega
      · have CL : ∀ W, (Instr.slice 23 (.slice (some ⟨b1, o1, none⟩) n c) (some (.int .i64 (k : Int))) (some (.int .i64 ((k : Int) + 1))) none).run Tryz.prog W = .ok (.slice (some ⟨b1, o1 + k * 5, none⟩) 1 (c - k)) W := fun W => cut_lh_i W b1 o1 n c k (by omega) hnc
        have hk1 : IntKind.i64.wrap ((k : Int) + 1) = (k : Int) + 1 := IntWalk.i64_in _ (by omega)
        have hown2 := own_up hown hu2
        go_wp2_with (at_builtin; refine wpList_append_rd _ rowsT (hown2.alloc _) (Rd.blk1 (heap_alloc_new w2 _)) (by simp [Value.oneCell']) (by omega) (by omega) (by simp; have := (hu.trans hu2).size; omega) rfl rfl rfl rfl ?_; intro v5 w5 hown5 hg5 hat5)
        obtain ⟨V5, vc5, rfl⟩ := own_form hown5
        have hu5 : Up w w5 := ((hu.trans hu2).alloc _).grown hg5 (fun g hg => (hown.lt g hg).1)
        go_roundw
        case rel =>
          refine ⟨k + 1, V5, m + 1, vc5, ps ++ [(k, c - k)], by go_num, rfl, by omega, by omega, ?_, ?_, ?_, hu5⟩
          · have e : rowsV b1 o1 (ps ++ [(k, c - k)]) = rowsV b1 o1 ps ++ [Value.slice (some ⟨b1, o1 + k * 5, none⟩) 1 (c - k)] := by simp [rowsV]
            rw [e]; exact hown5
          · intro r hr
            rcases List.mem_append.1 hr with h | h
            · exact hps.out r h
            · simp at h; subst h; exact ⟨hlt, by show 1 ≤ c - k; omega⟩
          · show _ = _
            rw [HTK.out, List.filter_append, ← hpk.out, List.filter_cons, ← HOB.out]
            simp [pick]
            rw [← HXD.out]; simp [List.getD]
        case measure => simp [intOf]; omega
    · have hki : ¬ (k : Int) < (n : Int) := by omega
      have hkn : k = l.length := by have := HL.out; omega
      have hpk2 : pick l ps = l.filter okB := by rw [hpk.out, hkn, List.take_length]
      have hr1 : Rd wr wr.heap.size 5 (some ⟨b, o, none⟩) n (itcs l) := by
        rcases Nat.eq_zero_or_pos n with h0 | h0
        · subst h0; exact (hr.up hu).zero
        · have h1 := hr.up hu
          rw [HBO.out h0] at h1; exact h1
      have h9 := rows11_any V m vc b o n ps l wr (Rd.own hown) hr1 hps.out (by omega)
      rw [hpk2] at h9
      have H9 := Lib.hid h9
      clear h9 hr1 hpk2 hpk hps hkn
      go_wp2_with fail
      refine H9.out.mono ?_
      rintro e w6 ⟨R, rn, rc, rfl, hq, hu6⟩
      go_wp2_with fail
      go_ret
      exact ⟨R, rn, rc, rfl, own_base hq hu.size, hu.trans hu6⟩
end Go.Proofs.YtfmjgkfblejknaaGreat

/-
  An item of a row of the call's own is written.
-/
namespace Go.Proofs.YtfmjgkfblejknaaGreat
open Go.RowKit
set_option linter.unusedVariables false
set_option linter.unusedSimpArgs false

theorem own_setcI {w : World} {base g n c sz j : Nat} {e : TypeId} {xs : List Value} (h : w.ownsRow base e sz (.slice (some ⟨g, 0, none⟩) n c) n xs) (u : Value) : (w.setCell ⟨g, j, none⟩ u).ownsRow base e sz (.slice (some ⟨g, 0, none⟩) n c) n (xs.set j u) := by
  refine ⟨by rw [List.length_set]; exact h.1, ?_⟩
  rcases h.2 with ⟨hv, _⟩ | ⟨g', cap, cur, hv, hb, hh, h1, h2, h3, h4⟩
  · cases hv
  · injection hv with hA _ hc
    injection hA with hA
    injection hA with hg _
    subst hg; subst hc
    refine .inr ⟨g, c, cur.setIfInBounds j u, rfl, hb, setc_heap w g j u cur e hh, h1, h2, by simp; exact h3, ?_⟩
    rw [Array.toList_setIfInBounds, List.take_set, h4]
theorem itcs_set (x : It) : ∀ (l : List It) (i : Nat), i < l.length → itcs (l.set i x) = (((((itcs l).set (i * 5) (.int .i64 x.s.toInt)).set (i * 5 + 1) (.int .i64 x.k.toInt)).set (i * 5 + 2) (.int .u64 (x.t.toNat : Int))).set (i * 5 + 3) (.int .u64 (x.v.toNat : Int))).set (i * 5 + 4) (.int .i64 x.x.toInt)
  | [], i, h => absurd h (Nat.not_lt_zero _)
  | y :: l, 0, _ => by simp [itcs, itc]
  | y :: l, i + 1, h => by
    have ih := itcs_set x l i (by simpa using h)
    have e1 : itcs ((y :: l).set (i + 1) x) = itc y ++ itcs (l.set i x) := by simp [itcs]
    have e2 : itcs (y :: l) = itc y ++ itcs l := by simp [itcs]
    have hs : ∀ (m : List Value) (j : Nat) (u : Value), (itc y ++ m).set (5 + j) u = itc y ++ m.set j u := fun m j u => by
      rw [List.set_append_right _ _ (by simp [itc])]
      congr 2
      simp [itc]
    rw [e1, e2, ih]
    rw [show (i + 1) * 5 = 5 + i * 5 by omega, show 5 + i * 5 + 1 = 5 + (i * 5 + 1) by omega, show 5 + i * 5 + 2 = 5 + (i * 5 + 2) by omega, show 5 + i * 5 + 3 = 5 + (i * 5 + 3) by omega, show 5 + i * 5 + 4 = 5 + (i * 5 + 4) by omega]
    rw [hs, hs, hs, hs, hs]
theorem own_item_set {w : World} {base g n c : Nat} {l : List It} (h : OwnI w base (some ⟨g, 0, none⟩) n c l) {i : Nat} (hi : i < n) (x : It) :
    OwnI (((((w.setCell ⟨g, i * 5, none⟩ (.int .i64 x.s.toInt)).setCell ⟨g, i * 5 + 1, none⟩ (.int .i64 x.k.toInt)).setCell ⟨g, i * 5 + 2, none⟩ (.int .u64 (x.t.toNat : Int))).setCell ⟨g, i * 5 + 3, none⟩ (.int .u64 (x.v.toNat : Int))).setCell ⟨g, i * 5 + 4, none⟩ (.int .i64 x.x.toInt)) base (some ⟨g, 0, none⟩) n c (l.set i x) ∧
    Rg.Keeps (fun k => k = g) w (((((w.setCell ⟨g, i * 5, none⟩ (.int .i64 x.s.toInt)).setCell ⟨g, i * 5 + 1, none⟩ (.int .i64 x.k.toInt)).setCell ⟨g, i * 5 + 2, none⟩ (.int .u64 (x.t.toNat : Int))).setCell ⟨g, i * 5 + 3, none⟩ (.int .u64 (x.v.toNat : Int))).setCell ⟨g, i * 5 + 4, none⟩ (.int .i64 x.x.toInt)) := by
  have hl := h.len
  refine ⟨?_, setc_keeps _ _ _ _ _ (setc_keeps _ _ _ _ _ (setc_keeps _ _ _ _ _ (setc_keeps _ _ _ _ _ (setc_keeps _ _ _ _ _ (Rg.Keeps.refl _ _)))))⟩
  unfold OwnI
  rw [itcs_set x l i (by omega)]
  exact own_setcI (own_setcI (own_setcI (own_setcI (own_setcI h _) _) _) _) _
theorem own_item_at {w : World} {base g n c : Nat} {l : List It} (h : OwnI w base (some ⟨g, 0, none⟩) n c l) {i : Nat} (hi : i < n) :
    (w.cell? ⟨g, i * 5, none⟩ = some (.int .i64 (l.getD i noIt).s.toInt) ∧ w.cell? ⟨g, i * 5 + 1, none⟩ = some (.int .i64 (l.getD i noIt).k.toInt) ∧ w.cell? ⟨g, i * 5 + 2, none⟩ = some (.int .u64 ((l.getD i noIt).t.toNat : Int)) ∧ w.cell? ⟨g, i * 5 + 3, none⟩ = some (.int .u64 ((l.getD i noIt).v.toNat : Int)) ∧ w.cell? ⟨g, i * 5 + 4, none⟩ = some (.int .i64 (l.getD i noIt).x.toInt)) ∧ ∀ j, w.frozen? ⟨g, j, none⟩ = false := by
  obtain ⟨b, o, y, e, hb, hy, c0, c1, c2, c3, c4⟩ := (Rd.own h).item_at hi
  injection e with e
  injection e with e1 e2
  subst e1; subst e2
  rw [Nat.zero_add] at c0 c1 c2 c3 c4
  have hg : l.getD i noIt = y := by rw [List.getD_eq_getElem?_getD, hy]; rfl
  rw [hg]
  exact ⟨⟨c0, c1, c2, c3, c4⟩, fun j => World.ownsRow.frozenAt h j⟩
theorem OwnI.glt {w : World} {base g n c : Nat} {l : List It} (h : OwnI w base (some ⟨g, 0, none⟩) n c l) : g < w.heap.size := by
  rcases h.2 with ⟨hv, _⟩ | ⟨g', cap, cur, hv, hb, hh, r⟩
  · cases hv
  · injection hv with hA _ hc
    injection hA with hA
    injection hA with hg _
    subst hg
    exact (Array.getElem?_eq_some_iff.1 hh).1
theorem OwnI.sta {w w' : World} {base g n c : Nat} {l : List It} {Y : Nat → Prop} (h : OwnI w base (some ⟨g, 0, none⟩) n c l) (hs : Rg.Sta Y w w') (hy : Y g) : OwnI w' base (some ⟨g, 0, none⟩) n c l := by
  refine ⟨h.1, ?_⟩
  rcases h.2 with ⟨hv, _⟩ | ⟨g', cap, cur, hv, hb, hh, r⟩
  · cases hv
  · have hv' := hv
    injection hv with hA _ hc
    injection hA with hA
    injection hA with hg _
    subst hg
    exact .inr ⟨g, cap, cur, hv', hb, (hs.block g (Array.getElem?_eq_some_iff.1 hh).1 hy).trans hh, r⟩
end Go.Proofs.YtfmjgkfblejknaaGreat
