/-
  'clepsydra/clepsydralaw12.TableEmpty': for every input the law returns true; each argument reads behind the call as it read before. No condition.
-/
import Derived.Test.YtfmjgkfblejknaaZ7
/-
  The law TableEmpty: the walk.
-/
namespace Go.Proofs.Ytfmjgkfblejknaa.tableEmpty
open Go.RowKit
set_option linter.unusedVariables false
set_option linter.unusedSimpArgs false

set_option maxRecDepth 100000 in
set_option maxHeartbeats 8000000 in
theorem law_any (x y : It) (v : Int) (w : World) (b2 : 0 ≤ v ∧ v ≤ 18446744073709551615) :
    Calls Try.prog 5 #[.agg #[.int .i64 x.s.toInt, .int .i64 x.k.toInt, .int .u64 (x.t.toNat : Int), .int .u64 (x.v.toNat : Int), .int .i64 x.x.toInt], .agg #[.int .i64 y.s.toInt, .int .i64 y.k.toInt, .int .u64 (y.t.toNat : Int), .int .u64 (y.v.toNat : Int), .int .i64 y.x.toInt], .int .u64 v] w fun e w' => e = .returned (.bool true) ∧ Up w w' := by
  obtain ⟨V, rfl⟩ : ∃ V : Nat, v = (V : Int) := ⟨v.toNat, by omega⟩
  have hme0 : makeE [] = 0 := rfl
  have hml0 : makeL [] = tabB [] := by unfold makeL; rw [if_pos hme0]
  obtain ⟨w0, hw0⟩ : ∃ w0, w0 = (w.alloc (.cells #[.int .i64 x.s.toInt, .int .i64 x.k.toInt, .int .u64 (x.t.toNat : Int), .int .u64 (x.v.toNat : Int), .int .i64 x.x.toInt] 35)).alloc (.cells #[.int .i64 y.s.toInt, .int .i64 y.k.toInt, .int .u64 (y.t.toNat : Int), .int .u64 (y.v.toNat : Int), .int .i64 y.x.toInt] 35) := ⟨_, rfl⟩
  have hup0 : Up w w0 := by rw [hw0]; exact ((Up.refl w).alloc _).alloc _
  have hx0 : w0.heap[w.heap.size]? = some (.cells #[.int .i64 x.s.toInt, .int .i64 x.k.toInt, .int .u64 (x.t.toNat : Int), .int .u64 (x.v.toNat : Int), .int .i64 x.x.toInt] 35 (0, 0)) := by
    rw [hw0, Below.heap_alloc _ _ _ (by simp)]; exact heap_alloc_new w _
  have hy0 : w0.heap[w.heap.size + 1]? = some (.cells #[.int .i64 y.s.toInt, .int .i64 y.k.toInt, .int .u64 (y.t.toNat : Int), .int .u64 (y.v.toNat : Int), .int .i64 y.x.toInt] 35 (0, 0)) := by
    rw [hw0]
    have h := heap_alloc_new (w.alloc (.cells #[.int .i64 x.s.toInt, .int .i64 x.k.toInt, .int .u64 (x.t.toNat : Int), .int .u64 (x.v.toNat : Int), .int .i64 x.x.toInt] 35)) (.cells #[.int .i64 y.s.toInt, .int .i64 y.k.toInt, .int .u64 (y.t.toNat : Int), .int .u64 (y.v.toNat : Int), .int .i64 y.x.toInt] 35)
    rwa [World.size_alloc] at h
  have HW0 := Lib.hid hw0
  have HE0 := Lib.hid hme0
  have HL0 := Lib.hid hml0
  clear hw0 hme0 hml0
  go_enter Try.func5, Try.ntmps5
  go_wp2_with fail
  rw [← HW0.out]
  clear HW0
  generalize w.heap.size + 1 = gy at *
  generalize hgx : w.heap.size = gx at *
  refine (make_any none 0 0 [] w0 Rd.empty (by omega) (by omega)).mono ?_
  rintro e w2 ⟨B, bn, bc, rfl, hoB, hu2⟩
  rw [HE0.out]
  rw [show ((0 : Nat) : Int) = 0 from rfl]
  rw [HL0.out] at hoB
  have HRD := Lib.hid (tread_tab B bn bc [] w2 (Rd.own hoB) HE0.out (own_cap hoB))
  have hx2 := blk_up hu2 hx0
  have hy2 := blk_up hu2 hy0
  have hup2 := hup0.trans hu2
  clear hoB hx0 hy0 hup0 hu2
  go_wp2_with fail
  refine HRD.out.mono ?_
  rintro e w3 ⟨g, m, rc3, R3, rs, rfl, hd3, hX3, hu3⟩
  rw [show ([] : List It).length = 0 from rfl] at hd3
  have hx3 := blk_up hu3 hx2
  have hy3 := blk_up hu3 hy2
  have hup3 := hup2.trans hu3
  have HF := Lib.hid (tfirst_no g m rc3 0 R3 none w3 hd3)
  clear HRD hx2 hy2 hup2 hu3
  go_wp2_with fail
  refine HF.out.mono ?_
  rintro e w4 ⟨rfl, hu4⟩
  have hd4 := blk_up (hu4.alloc (.cells #[.int .i64 0, .int .i64 0, .int .u64 0, .int .u64 0, .int .i64 0] 35)) hd3
  have HLA := Lib.hid (tlast_no g m rc3 0 R3 none _ hd4)
  have hup4 : Up w3 (w4.alloc (.cells #[.int .i64 0, .int .i64 0, .int .u64 0, .int .u64 0, .int .i64 0] 35)) := hu4.alloc _
  clear HF hu4 hd4
  go_wp2_with fail
  refine HLA.out.mono ?_
  rintro e w5 ⟨rfl, hu5⟩
  have hu35 := hup4.trans hu5
  obtain ⟨w6, hw6⟩ : ∃ w6, w6 = w5.alloc (.cells #[.int .i64 0, .int .i64 0, .int .u64 0, .int .u64 0, .int .i64 0] 35) := ⟨_, rfl⟩
  have hu36 : Up w3 w6 := by rw [hw6]; exact hu35.alloc _
  have hd6 := blk_up hu36 hd3
  have hX6 := hX3.up hu36
  have hx6 := blk_up hu36 hx3
  have hy6 := blk_up hu36 hy3
  have hup6 := hup3.trans hu36
  have HW6 := Lib.hid hw6
  have HG := Lib.hid (tget_none (x := y) hd6 hX6 rfl)
  have q0 := blk_cell hy6 0
  have q1 := blk_cell hy6 1
  have q2 := blk_cell hy6 2
  have q3 := blk_cell hy6 3
  have q4 := blk_cell hy6 4
  simp only [List.getElem?_toArray, List.getElem?_cons_zero, List.getElem?_cons_succ] at q0 q1 q2 q3 q4
  rw [HW6.out] at q0 q1 q2 q3 q4
  clear HLA hd3 hX3 hx3 hy3 hup3 hup4 hu5 hu35 hu36 hw6
  go_wp2_with fail
  rw [← HW6.out]
  refine HG.out.mono ?_
  rintro e w7 ⟨rfl, hu7⟩
  clear q0 q1 q2 q3 q4 HW6 HG
  obtain ⟨w8, hw8⟩ : ∃ w8, w8 = w7.alloc (.cells #[.int .i64 0, .int .i64 0, .int .u64 0, .int .u64 0, .int .i64 0] 35) := ⟨_, rfl⟩
  have hu68 : Up w6 w8 := by rw [hw8]; exact hu7.alloc _
  have hd8 := blk_up hu68 hd6
  have hX8 := hX6.up hu68
  have hx8 := blk_up hu68 hx6
  have hy8 := blk_up hu68 hy6
  have hup8 := hup6.trans hu68
  have HW8 := Lib.hid hw8
  have HTL := Lib.hid (tlen_any g m rc3 0 0 R3 none w8 hd8)
  have HTA := Lib.hid (tall_x hd8 hX8)
  clear hd6 hX6 hx6 hy6 hup6 hu7 hu68 hw8
  go_wp2_with fail
  rw [← HW8.out]
  refine HTL.out.mono ?_
  rintro e w9 ⟨rfl, rfl⟩
  rw [show ((0 : Nat) : Int) = 0 from rfl]
  clear HTL HW8
  go_wp2_with fail
  refine HTA.out.mono ?_
  rintro e w10 ⟨A10, c10, rfl, -, hu10⟩
  rw [show ([] : List It).length = 0 from rfl]
  have hd10 := blk_up hu10 hd8
  have hX10 := hX8.up hu10
  have hx10 := blk_up hu10 hx8
  have hy10 := blk_up hu10 hy8
  have hup10 := hup8.trans hu10
  have q0 := blk_cell hy10 0
  have q1 := blk_cell hy10 1
  have q2 := blk_cell hy10 2
  have q3 := blk_cell hy10 3
  have q4 := blk_cell hy10 4
  have r0 := blk_cell hx10 0
  have r1 := blk_cell hx10 1
  have r2 := blk_cell hx10 2
  have r3 := blk_cell hx10 3
  have r4 := blk_cell hx10 4
  simp only [List.getElem?_toArray, List.getElem?_cons_zero, List.getElem?_cons_succ] at q0 q1 q2 q3 q4 r0 r1 r2 r3 r4
  have HTR := Lib.hid (trange_x hd10 hX10 x y)
  clear HTA hd8 hX8 hx8 hy8 hup8 hu10
  go_wp2_with fail
  refine HTR.out.mono ?_
  rintro e w11 ⟨A11, n11, rfl, hr11, -, hu11⟩
  have hn11 : n11 = 0 := hr11.ilen
  subst hn11
  have hx11 := blk_up hu11 hx10
  have hup11 := hup10.trans hu11
  clear q0 q1 q2 q3 q4 r0 r1 r2 r3 r4 HTR hd10 hX10 hx10 hy10 hup10 hu11 hr11
  have r0 := blk_cell hx11 0
  have r1 := blk_cell hx11 1
  have r2 := blk_cell hx11 2
  have r3 := blk_cell hx11 3
  have r4 := blk_cell hx11 4
  simp only [List.getElem?_toArray, List.getElem?_cons_zero, List.getElem?_cons_succ] at r0 r1 r2 r3 r4
  go_wp2_with fail
  refine (rok_any x w11).mono ?_
  rintro e w12 ⟨rfl, hu12⟩
  have hx12 := blk_up hu12 hx11
  have hup12 := hup11.trans hu12
  clear hx11 hup11 hu12 r0 r1 r2 r3 r4
  have r0 := blk_cell hx12 0
  have r1 := blk_cell hx12 1
  have r2 := blk_cell hx12 2
  have r3 := blk_cell hx12 3
  have r4 := blk_cell hx12 4
  simp only [List.getElem?_toArray, List.getElem?_cons_zero, List.getElem?_cons_succ] at r0 r1 r2 r3 r4
  by_cases hok : okB x = true
  · rw [hok]
    have hme : makeE [x] = 0 := makeE_yes (by simp) trivial (fun z hz => by rw [List.mem_singleton.1 hz]; exact hok)
    have hml : makeL [x] = tabB [x] := by unfold makeL; rw [if_pos hme]
    have hfx : findL [x] ⟨x.s, x.k, x.t, UInt64.ofNat V, x.x⟩ = some x := find_at (l := [x]) (i := 0) trivial (by simp) (by rw [same_iff]; exact ⟨rfl, rfl, rfl⟩)
    have hrx : rangeL [x] x x = [x] := by unfold rangeL; rw [List.filter_cons, less_irr]; rfl
    obtain ⟨w13, hw13⟩ : ∃ w13, w13 = w12.alloc (.cells #[.int .i64 x.s.toInt, .int .i64 x.k.toInt, .int .u64 (x.t.toNat : Int), .int .u64 (x.v.toNat : Int), .int .i64 x.x.toInt] 35) := ⟨_, rfl⟩
    have hu13 : Up w12 w13 := by rw [hw13]; exact (Up.refl w12).alloc _
    have hr13 : Rd w13 w13.heap.size 5 (some ⟨w12.heap.size, 0, none⟩) 1 (itcs [x]) := by
      rw [hw13]; exact Rd.ilit_at w12 [x] #[.int .i64 x.s.toInt, .int .i64 x.k.toInt, .int .u64 (x.t.toNat : Int), .int .u64 (x.v.toNat : Int), .int .i64 x.x.toInt] 35 rfl rfl
    have hx13 := blk_up hu13 hx12
    have hup13 := hup12.trans hu13
    have HMK := Lib.hid (make_any (some ⟨w12.heap.size, 0, none⟩) 1 1 [x] w13 hr13 (by omega) (by omega))
    have HW13 := Lib.hid hw13
    have HE := Lib.hid hme
    have HL := Lib.hid hml
    have HFX := Lib.hid hfx
    have HRX := Lib.hid hrx
    clear hme hml hfx hrx hw13 hu13 hr13 hx12 hup12 hok
    go_wp2_with fail
    rw [← HW13.out]
    refine HMK.out.mono ?_
    rintro e w14 ⟨C, cn, cc, rfl, hoC, hu14⟩
    rw [HE.out]
    rw [show ((0 : Nat) : Int) = 0 from rfl]
    rw [HL.out] at hoC
    have HRD := Lib.hid (tread_tab C cn cc [x] w14 (Rd.own hoC) HE.out (own_cap hoC))
    have hx14 := blk_up hu14 hx13
    have hup14 := hup13.trans hu14
    clear hoC hx13 hup13 hu14 r0 r1 r2 r3 r4 HMK HW13
    go_wp2_with fail
    refine HRD.out.mono ?_
    rintro e w15 ⟨g', m', rc', R', rs', rfl, hd15, hX15, hu15⟩
    rw [show ([x] : List It).length = 1 from rfl] at hd15
    have hx15 := blk_up hu15 hx14
    have hup15 := hup14.trans hu15
    clear HRD hx14 hup14 hu15
    have r0 := blk_cell hx15 0
    have r1 := blk_cell hx15 1
    have r2 := blk_cell hx15 2
    have r3 := blk_cell hx15 3
    have r4 := blk_cell hx15 4
    simp only [List.getElem?_toArray, List.getElem?_cons_zero, List.getElem?_cons_succ] at r0 r1 r2 r3 r4
    obtain ⟨w16, hw16⟩ : ∃ w16, w16 = w15.alloc (.cells #[.int .i64 x.s.toInt, .int .i64 x.k.toInt, .int .u64 (x.t.toNat : Int), .int .u64 (V : Int), .int .i64 x.x.toInt] 35) := ⟨_, rfl⟩
    have hu16 : Up w15 w16 := by rw [hw16]; exact (Up.refl w15).alloc _
    have hd16 := blk_up hu16 hd15
    have hX16 := hX15.up hu16
    have hx16 := blk_up hu16 hx15
    have hup16 := hup15.trans hu16
    have hg : Calls Try.prog 11 #[.pointer (some ⟨g', 0, none⟩), .agg #[.int .i64 x.s.toInt, .int .i64 x.k.toInt, .int .u64 (x.t.toNat : Int), .int .u64 (V : Int), .int .i64 x.x.toInt]] w16 fun e w' => e = .returned (.tuple #[.agg #[.int .i64 x.s.toInt, .int .i64 x.k.toInt, .int .u64 (x.t.toNat : Int), .int .u64 (x.v.toNat : Int), .int .i64 x.x.toInt], .bool true]) ∧ Up w16 w' := by
      have hV : (UInt64.ofNat V).toNat = V := by simp; omega
      have h := tget_some hd16 hX16 HFX.out
      simp only [hV] at h
      exact h
    have HG2 := Lib.hid hg
    have HW16 := Lib.hid hw16
    clear hg hd15 hX15 hx15 hup15 hu16 hw16
    go_wp2_with fail
    rw [← HW16.out]
    refine HG2.out.mono ?_
    rintro e w17 ⟨rfl, hu17⟩
    clear HG2 HW16 r0 r1 r2 r3 r4
    obtain ⟨w18, hw18⟩ : ∃ w18, w18 = w17.alloc (.cells #[.int .i64 x.s.toInt, .int .i64 x.k.toInt, .int .u64 (x.t.toNat : Int), .int .u64 (x.v.toNat : Int), .int .i64 x.x.toInt] 35) := ⟨_, rfl⟩
    have hu18 : Up w16 w18 := by rw [hw18]; exact hu17.alloc _
    have hp18 : w18.heap[w17.heap.size]? = some (.cells #[.int .i64 x.s.toInt, .int .i64 x.k.toInt, .int .u64 (x.t.toNat : Int), .int .u64 (x.v.toNat : Int), .int .i64 x.x.toInt] 35 (0, 0)) := by rw [hw18]; exact heap_alloc_new w17 _
    have hd18 := blk_up hu18 hd16
    have hX18 := hX16.up hu18
    have hx18 := blk_up hu18 hx16
    have hup18 := hup16.trans hu18
    have HW18 := Lib.hid hw18
    have r0 := blk_cell hx18 0
    have r1 := blk_cell hx18 1
    have r2 := blk_cell hx18 2
    have r3 := blk_cell hx18 3
    have r4 := blk_cell hx18 4
    have p0 := blk_cell hp18 0
    have p1 := blk_cell hp18 1
    have p2 := blk_cell hp18 2
    have p3 := blk_cell hp18 3
    have p4 := blk_cell hp18 4
    simp only [List.getElem?_toArray, List.getElem?_cons_zero, List.getElem?_cons_succ] at r0 r1 r2 r3 r4 p0 p1 p2 p3 p4
    rw [HW18.out] at r0 r1 r2 r3 r4 p0 p1 p2 p3 p4
    have HTL := Lib.hid (tlen_any g' m' rc' 1 0 R' none w18 hd18)
    have HTR := Lib.hid (trange_x hd18 hX18 x x)
    clear hd16 hX16 hx16 hup16 hu17 hu18 hw18
    go_wp2_with fail
    rw [← HW18.out]
    refine HTL.out.mono ?_
    rintro e w19 ⟨rfl, rfl⟩
    rw [show ((1 : Nat) : Int) = 1 from rfl]
    rw [← HW18.out] at r0 r1 r2 r3 r4 p0 p1 p2 p3 p4
    clear HTL HW18
    go_wp2_with fail
    refine HTR.out.mono ?_
    rintro e w20 ⟨A20, n20, rfl, hr20, -, hu20⟩
    have hn20 : n20 = 1 := by have h := hr20.ilen; rw [HRX.out] at h; exact h
    subst hn20
    clear hr20
    go_wp2_with fail
    refine (awake12_any w20).mono ?_
    rintro e w21 ⟨rfl, hu21⟩
    go_wp2_with fail
    go_ret
    exact ⟨rfl, (hup18.trans hu20).trans hu21⟩
  · rw [Bool.not_eq_true] at hok
    rw [hok]
    go_wp2_with fail
    refine (awake12_any w12).mono ?_
    rintro e w13 ⟨rfl, hu13⟩
    go_wp2_with fail
    go_ret
    exact ⟨rfl, hup12.trans hu13⟩
end Go.Proofs.Ytfmjgkfblejknaa.tableEmpty

/-
  'clepsydra/clepsydralaw12.TableEmpty': for every input the law returns true; each argument reads behind the call as it read before. No condition.
-/
namespace Go.Proofs.Ytfmjgkfblejknaa.tableEmpty
open Go.ChangeShapes Go.WideShapes Go.ChangeAt Go.RowKit
open Go.ChangeMaps (open_string shut_string)
set_option linter.unusedVariables false

set_option maxRecDepth 100000 in
theorem lifted (os : Os) (started : os.Started) (H : Type) (enc : TypeId × Value → H) :
    ReturnsInHanded {} Try.checked os 5 .any (Rows.tableEmptySpec.pre6 enc Try.prog Try.f5 Rows.tableEmptyRow.domain false) (Rows.tableEmptySpec.post enc Try.prog Try.f5 false true false false) := by
  refine returnsInHanded_of_change (C := Try.checked) prog_own started (by kernel_rfl) Try.func5
    (ChangeSpec.witness6 (enc := enc) (C := Try.checked) false ⟨#[], #[.agg #[.int .i64 0, .int .i64 0, .int .u64 0, .int .u64 0, .int .i64 0], .agg #[.int .i64 0, .int .i64 0, .int .u64 0, .int .u64 0, .int .i64 0], .int .u64 0], []⟩ 8 (by kernel_rfl) (by kernel_rfl) (by kernel_rfl) (by kernel_rfl)) ?_
  intro W base args ds gs before hval0 hW hcnd _
  have hval : ∀ (j : Nat) t v, Try.f5.params[j]? = some t → args[j]? = some v → Value.okWide Try.prog W .any base t v := hval0
  have hW' := hW
  obtain ⟨p, q, hA0, hV, rfl, hfz, hnd⟩ := hW
  have hA : DataW.TrodAll enc Try.prog W 0 (fun _ => true) true Try.f5.params.toList args.toList ds p := hA0
  rw [Try.params5] at hA hval
  obtain ⟨v0, vs0, d0, ds0, p0, q0, hargs, rfl, rfl, h0, r0⟩ := trodAll_cons hA
  obtain ⟨v1, vs1, d1, ds1, p1, q1, rfl, rfl, rfl, h1, r1⟩ := trodAll_cons r0
  obtain ⟨v2, vs2, d2, ds2, p2, q2, rfl, rfl, rfl, h2, r2⟩ := trodAll_cons r1
  obtain ⟨rfl, rfl, rfl⟩ := trodAll_nil r2
  obtain rfl : args = #[v0, v1, v2] := by cases args; simp_all
  obtain ⟨rfl, rfl⟩ := trodVars_none hV
  have k0 := h0
  have lt0 : ∀ x ∈ p0, x.block < W.heap.size := by obtain ⟨m, hm⟩ := k0; exact DataW.trod_lt m _ _ _ hm
  obtain ⟨a0, rfl⟩ := is_item (hval 0 35 v0 rfl rfl) h0
  have k1 := h1
  have lt1 : ∀ x ∈ p1, x.block < W.heap.size := by obtain ⟨m, hm⟩ := k1; exact DataW.trod_lt m _ _ _ hm
  obtain ⟨a1, rfl⟩ := is_item (hval 1 35 v1 rfl rfl) h1
  obtain ⟨a2, rfl, rfl, rfl, w2⟩ := open_int Try.underlying33 (hval 2 33 v2 rfl rfl) h2
  have b2 := bd_u64 w2
  clear hA0 hval0
  refine (law_any a0 a1 a2 W b2).mono fun e W' ⟨he, bel⟩ => ?_
  subst he
  exact ⟨_, rfl, _, _, _, [], _, [], hW', trodAll_mk1 (shut_bool Try.underlying4 _), (trodAll_cons_mk (Below.trod laidOut (by kernel_rfl) (of_decide_eq_true (by kernel_rfl)) k0 bel lt0) (trodAll_cons_mk (Below.trod laidOut (by kernel_rfl) (of_decide_eq_true (by kernel_rfl)) k1 bel lt1) (trodAll_cons_mk (shut_int Try.underlying33 w2) trodAll_mk0))), rfl, bel.frame _, fun h => by cases h⟩

theorem proved : Rows.TableEmptySaid :=
  OpenClaim.holds_of_wide 5 Try.f5 rfl rfl rfl rfl rfl rfl rfl ⟨rfl, rfl, rfl, rfl, rfl⟩ rfl rfl rfl rfl rfl (by kernel_rfl) Try.func5 (by kernel_rfl)
    (of_decide_eq_true (by kernel_rfl)) (by unfold Func.isWrapper; first | (rw [if_pos (by decide +kernel)]; kernel_rfl) | (rw [if_neg (by decide +kernel)]; exact ⟨rfl, rfl⟩))
    (fun os started H enc _ => lifted os started H enc)
#print axioms proved
end Go.Proofs.Ytfmjgkfblejknaa.tableEmpty
