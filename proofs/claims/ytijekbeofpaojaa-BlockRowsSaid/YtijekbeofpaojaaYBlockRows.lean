/-
  'clepsydra/clepsydralaw11.BlockRows': for every input the law returns true; each argument reads behind the call as it read before. No condition.
-/
import Derived.Test.YtijekbeofpaojaaZ5
/-
  The law BlockRows: the walk.
-/
namespace Go.Proofs.Ytijekbeofpaojaa.blockRows
open Go.RowKit
set_option linter.unusedVariables false
set_option linter.unusedSimpArgs false

theorem riseR_drop : ∀ {l : List It} (k : Nat), riseR l → riseR (l.drop k)
  | [], k, _ => by rw [List.drop_nil]; trivial
  | a :: r, 0, h => h
  | a :: r, k + 1, h => riseR_drop k (riseR_tail h)
theorem riseR_take : ∀ {l : List It} (k : Nat), riseR l → riseR (l.take k)
  | [], k, _ => by rw [List.take_nil]; trivial
  | a :: r, 0, h => trivial
  | a :: r, k + 1, h => by
    rw [List.take_succ_cons]
    refine riseR_cons (riseR_take k (riseR_tail h)) fun z t e => ?_
    cases r with
    | nil => rw [List.take_nil] at e; cases e
    | cons b r =>
      cases k with
      | zero => cases e
      | succ k =>
        rw [List.take_succ_cons] at e
        injection e with e1 e2
        rw [← e1]; exact h.1
theorem qL_ok (l : List It) : ∀ y ∈ qL l, okB y = true := (rowsL_all (l.filter okB) [] trivial (fun y hy => by cases hy) (fun y hy => (List.mem_filter.1 hy).2)).2.1
theorem blk_ok {z : List It} (h0 : 0 < z.length) (h1 : z.length ≤ 100) (hr : riseR z) (ho : ∀ y ∈ z, okB y = true) : bErr z = 0 := by
  unfold bErr
  rw [if_neg (by omega)]
  unfold mayL
  rw [decide_eq_true h0, risesB_yes (riseR_yes hr), List.all_eq_true.2 ho]; rfl
theorem cut_may {q : Nat} {l z : List It} (hq1 : 1 ≤ q) (hq2 : q ≤ 100) (hr : riseR l) (ho : ∀ y ∈ l, okB y = true) (h : z ∈ cutL q l) : bErr z = 0 := by
  unfold cutL cutK at h
  obtain ⟨j, hj, rfl⟩ := List.mem_map.1 h
  have hj' := partsK_lt hq1 (List.mem_range.1 hj)
  refine blk_ok ?_ ?_ (riseR_take _ (riseR_drop _ hr)) (fun y hy => ho y (List.mem_of_mem_drop (List.mem_of_mem_take hy)))
  · rw [List.length_take, List.length_drop]; omega
  · rw [List.length_take]; omega
/-- blocks one behind the other -/
def blksB (L : List (List It)) : List UInt8 := L.flatMap fun z => frameB 2 (itemsB z)
theorem blksB_snoc (L : List (List It)) (k : Nat) (h : k < L.length) : blksB (L.take (k + 1)) = blksB (L.take k) ++ frameB 2 (itemsB L[k]) := by
  rw [List.take_succ_eq_append_getElem h]
  unfold blksB
  rw [List.flatMap_append]
  simp
theorem blksB_split (L : List (List It)) (k : Nat) (h : k < L.length) : blksB L = blksB (L.take k) ++ (frameB 2 (itemsB L[k]) ++ blksB (L.drop (k + 1))) := by
  have e : L = L.take k ++ L[k] :: L.drop (k + 1) := by rw [← List.drop_eq_getElem_cons h, List.take_append_drop]
  conv => lhs; rw [e]
  unfold blksB
  rw [List.flatMap_append, List.flatMap_cons]
def lensL (L : List (List It)) (k : Nat) : List Nat := (List.range k).map fun j => (blksB (L.take j)).length
theorem lensL_succ (L : List (List It)) (k : Nat) : lensL L (k + 1) = lensL L k ++ [(blksB (L.take k)).length] := by simp [lensL, List.range_succ]
theorem takeB_end (l : List UInt8) : takeB l (l.length : Int) = (9, [], 0) := by
  refine takeB_bad (by omega) (by omega) ?_
  unfold takeF
  rw [if_neg (by omega)]
  unfold takeR
  simp
theorem takeB_neg (l : List UInt8) : takeB l (-1) = (1, [], 0) := by
  unfold takeB
  simp only []
  rw [if_pos (takeF_one.2 (.inl (by omega)))]
theorem intsT : SlT Try.prog 39 3 1 8 := SlT.mk' Try.underlying39 (z := .int .i64 0) (by kernel_rfl) rfl (by decide)
set_option maxRecDepth 100000 in
set_option maxHeartbeats 16000000 in
theorem law_any (A : Option Addr) (an ac : Nat) (l : List It) (most at0 : Int) (w : World) (h0 : IsI w A an ac l) (b1 : -9223372036854775808 ≤ most ∧ most ≤ 9223372036854775807) (b2 : -9223372036854775808 ≤ at0 ∧ at0 ≤ 9223372036854775807) :
    Calls Try.prog 5 #[.slice A an ac, .int .i64 most, .int .i64 at0] w fun e w' => e = .returned (.bool true) ∧ Up w w' := by
  obtain ⟨ha, hac, -⟩ := h0
  by_cases c0 : 100 < an
  · have c0i : (100 : Int) < (an : Int) := by omega
    go_enter Try.func5, Try.ntmps5
    go_wp2_with fail
    refine (awake11_any _).mono ?_
    rintro e w4 ⟨rfl, hu4⟩
    go_wp2_with fail
    go_ret
    exact ⟨rfl, hu4⟩
  have c0i : ¬ (100 : Int) < (an : Int) := by omega
  obtain ⟨C1, hC, hC2⟩ := i64_and_le most 7 (by omega)
  replace hC : bits .and .i64 most 7 = (C1 : Int) := hC
  go_enter Try.func5, Try.ntmps5
  go_wp2_with fail
  refine (one11_any A an ac l w ha hac (by omega)).mono ?_
  intro e w1 ho
  obtain ⟨V, vm, vc, rfl, hu1, hR⟩ := rowsQ_any A an l w w1 ha (by omega) ho
  clear ho
  go_wp2_with fail
  refine hR.mono ?_
  rintro e w2 ⟨R, rn, rc, rfl, hown, hu2⟩
  have hup2 := hu1.trans hu2
  have hq := Rd.own hown
  have hqn : rn ≤ 100 := by
    have h1 := hq.ilen
    have h2 := qL_len l
    have h3 := ha.ilen
    omega
  have hrise := qL_rise l
  have hqok := qL_ok l
  have hrc := own_cap hown
  generalize qL l = q at *
  have hcap := own_cap hown
  have hq1 : 1 ≤ mostQ ((C1 : Int) + 1) := (mostQ_bd _).1
  have hq2 := (mostQ_bd ((C1 : Int) + 1)).2
  clear hR hown hu1 hu2 ha hac
  go_wp2_with fail
  refine (rcut_any R rn rc ((C1 : Int) + 1) q w2 hq hrc (by omega) (by omega) (by omega)).mono ?_
  rintro e w4 ⟨R2, m, r2, rs, rfl, hv, hok, hl, hu4⟩
  have hm : m = rs.length := by have h := hv.1; simp only [rwv, List.length_map, Nat.mul_one] at h; exact h.symm
  have hb300 : m ≤ 100 := by
    have h1 : rs.length = (cutL (mostQ ((C1 : Int) + 1)) q).length := by rw [← hl]; simp [rwl]
    have h2 := partsK_n (q := mostQ ((C1 : Int) + 1)) (n := q.length) hq1
    have h3 := hq.ilen
    have h4 : (cutL (mostQ ((C1 : Int) + 1)) q).length = partsK (mostQ ((C1 : Int) + 1)) q.length := by simp [cutL, cutK]
    omega
  have hmay : ∀ z ∈ rwl rs, bErr z = 0 := fun z hz => cut_may hq1 hq2 hrise hqok (by rw [← hl]; exact hz)
  have hup4 := hup2.trans hu4
  obtain ⟨L, hLr⟩ : ∃ L, L = rwl rs := ⟨_, rfl⟩
  rw [← hLr] at hmay
  have hmL : m = L.length := by rw [hm, hLr]; simp [rwl]
  have HM := Lib.hid hm
  have HML := Lib.hid hmL
  have HMAY := Lib.hid hmay
  have HLR := Lib.hid hLr
  have hfl : ∀ k (h : k < L.length), (frameB 2 (itemsB L[k])).length ≤ 3222 := fun k h => by
    have h1 := frameB_len 2 (itemsB L[k])
    have h2 := itemsB_blk L[k] (bErr_ok (hmay _ (List.getElem_mem _))).1
    omega
  have HFL := Lib.hid hfl
  clear hm hmL hmay hLr hl hrise hqok hq hup2 hu4 hq1 hq2 hfl hC
  go_wp2_with fail
  go_loopw [8, 9, 10] (fun bv ev i wr => ∃ (k : Nat) (B : Option Addr) (bn bc : Nat) (E : Option Addr) (ec : Nat), i = .int .i64 (k : Int) ∧ bv = .slice B bn bc ∧ ev = .slice E k ec ∧ k ≤ m ∧ OwnB wr w4.heap.size B bn bc (blksB (L.take k)) ∧ bn ≤ 3222 * k ∧ wr.ownsRow w4.heap.size 3 1 (.slice E k ec) k (nvi (lensL L k)) ∧ Up w4 wr) (fun _ _ i _ => m - (intOf i).toNat)
  case atStart => exact ⟨0, none, 0, 0, none, 0, rfl, rfl, rfl, by omega, World.ownsRow_nil _ _ _ _, by omega, World.ownsRow_nil _ _ _ _, Up.refl _⟩
  case round =>
    obtain ⟨k, B, bn, bc, E, ec, rfl, rfl, rfl, hk, hob, hbn, hown, hu⟩ := hrel
    have hrd := hob.rd
    have hbc := own_cap hob
    by_cases hkm : k < m
    · have k1 : k < rs.length := by rw [← HM.out]; exact hkm
      have k2 : k < L.length := by rw [← HML.out]; exact hkm
      obtain ⟨bA, oA, rfl, hbA, hcA⟩ := hv.2 (by omega)
      have e1 := hcA k rs[k].v (by simp [rwv, k1])
      have o1 := hok rs[k] (List.getElem_mem _)
      have hl1 : rs[k].l = L[k] := by
        have h : L[k]? = (rwl rs)[k]? := by rw [HLR.out]
        simp only [rwl, List.getElem?_map, List.getElem?_eq_getElem k1, List.getElem?_eq_getElem k2, Option.map_some] at h
        injection h with h
        exact h.symm
      have hbe := HMAY.out L[k] (List.getElem_mem _)
      have hsn := blksB_snoc L k k2
      have hfk := HFL.out k k2
      rw [← hl1] at hbe hsn hfk
      generalize rs[k] = p1 at *
      obtain ⟨A1, n1, c1, q1⟩ := p1
      simp only [Rw.v] at e1 o1 hbe hsn hfk
      have hn1 : n1 ≤ 100 := by have := o1.1.ilen; have := (bErr_ok hbe).1; omega
      have hput : blkL (blksB (L.take k)) q1 = blksB (L.take (k + 1)) := by unfold blkL; rw [if_pos hbe, hsn]
      have hbl := hrd.blen
      have hln : (blksB (L.take (k + 1))).length ≤ 3222 * (k + 1) := by rw [hsn, List.length_append, ← hbl, Nat.mul_succ]; omega
      have hlk := lensL_succ L k
      rw [← hbl] at hlk
      have HPUT := Lib.hid hput
      have HBE := Lib.hid hbe
      have HLK := Lib.hid hlk
      have HLN := Lib.hid hln
      have hbn2 : bn ≤ 322200 := by omega
      clear hput hbe hsn hfk hbl hlk hln hl1
      go_wp2_with (at_builtin; refine wpList_append_rd _ intsT (news := nvi [bn]) (World.ownsRow.alloc hown _) (Rd.box _ _ _) (nvi_one _) (by omega) (by omega) (by simp; have := hu.size; omega) rfl rfl rfl rfl ?_; intro v3 w3 hown3 hg3 hat3; obtain ⟨E3, ec3, rfl⟩ := own_form hown3; have hu3 : Up w4 w3 := (hu.alloc _).grown hg3 (fun g hg => (hown.lt g hg).1); have e3 := (hu3.cell (p := ⟨bA, oA + k, none⟩) hbA).trans e1)
      have hob3 : OwnB w3 w4.heap.size B bn bc (blksB (L.take k)) := own_apart (World.ownsRow.alloc hob _) (World.ownsRow.alloc hown _) (by decide) hg3
      have o3 := o1.1.up hu3
      clear hg3 hat3 e1 e3 hob hown hrd
      refine (bput_any B bn bc _ A1 n1 c1 q1 w3 hob3.rd (by omega) o3 (by omega)).mono ?_
      rintro e w5 ⟨B5, bn5, bc5, rfl, ho5, hu5⟩
      rw [HBE.out]
      rw [HPUT.out] at ho5
      have hn5 : bn5 ≤ 3222 * (k + 1) := by have h1 := ho5.rd.blen; have h2 := HLN.out; omega
      have hs5 := hu3.size
      go_wp2_with fail
      go_roundw
      case rel =>
        refine ⟨k + 1, B5, bn5, bc5, E3, ec3, by go_num, rfl, rfl, by omega, own_base ho5 hs5, by omega, ?_, hu3.trans hu5⟩
        rw [HLK.out]
        have h9 := own_up hown3 hu5
        unfold nvi at h9 ⊢
        rw [List.map_append]
        exact h9
      case measure => simp [intOf] <;> omega
    · have hkm2 : k = m := by omega
      subst hkm2
      have htl : L.take k = L := by rw [HML.out, List.take_length]
      rw [htl] at hob hrd
      have hE : ∀ j, j < k → ∃ g, E = some ⟨g, 0, none⟩ ∧ wr.cell? ⟨g, j, none⟩ = some (.int .i64 ((blksB (L.take j)).length : Int)) ∧ g < wr.heap.size := fun j hj => by
        have h9 := Rd.own hown
        obtain ⟨g, rfl, _, hg⟩ := own_some hown (by omega)
        obtain ⟨b, o, e9, hb, hc⟩ := h9.2 (by omega)
        injection e9 with e9
        injection e9 with e8 e7
        subst e8; subst e7
        have h8 := hc j (.int .i64 ((blksB (L.take j)).length : Int)) (by simp [nvi, lensL, hj])
        rw [Nat.zero_add] at h8
        exact ⟨g, rfl, h8, hg⟩
      have HE := Lib.hid hE
      have hbl := hrd.blen
      have hup5 := hup4.trans hu
      have htk : ∀ j (hj : j < L.length), takeB (blksB L) ((blksB (L.take j)).length : Int) = (0, L[j], ((blksB (L.take (j + 1))).length : Int)) := fun j hj => by
        have h1 := takeB_frame (blksB (L.take j)) (blksB (L.drop (j + 1))) (HMAY.out L[j] (List.getElem_mem _))
        have h2 := frameB_len 2 (itemsB L[j])
        rw [← blksB_split L j hj] at h1
        rw [h1, blksB_snoc L j hj, List.length_append, h2]
      have HTK := Lib.hid htk
      have hend := takeB_end (blksB L)
      have hneg := takeB_neg (blksB L)
      rw [← hbl] at hend
      have HEND := Lib.hid hend
      have HNEG := Lib.hid hneg
      have HBL := Lib.hid hbl
      have hvu := hv.up hu
      have hoku := hok.up hu
      clear hob hown hE htl hbl htk hend hneg hv hok hup4 hu
      generalize wr = wq at *
      go_wp2_with fail
      go_loopw [13, 14] (fun pv i w8 => ∃ (j P : Nat), i = .int .i64 (j : Int) ∧ pv = .int .i64 (P : Int) ∧ j ≤ k ∧ Hid (P = (blksB (L.take j)).length) ∧ Up wq w8) (fun _ i _ => k - (intOf i).toNat)
      case atStart => exact ⟨0, 0, rfl, rfl, by omega, rfl, Up.refl _⟩
      case round =>
        obtain ⟨j, P, rfl, rfl, hj, hP, hu⟩ := hrel
        have hrd8 := hrd.up hu
        by_cases hjm : j < k
        · have k1 : j < rs.length := by rw [← HM.out]; exact hjm
          have k2 : j < L.length := by rw [← HML.out]; exact hjm
          obtain ⟨bA, oA, rfl, hbA, hcA⟩ := hvu.2 (by omega)
          have e1 := hcA j rs[j].v (by simp [rwv, k1])
          have o1 := hoku rs[j] (List.getElem_mem _)
          have hl1 : rs[j].l = L[j] := by
            have h : L[j]? = (rwl rs)[j]? := by rw [HLR.out]
            simp only [rwl, List.getElem?_map, List.getElem?_eq_getElem k1, List.getElem?_eq_getElem k2, Option.map_some] at h
            injection h with h
            exact h.symm
          have hbe := HMAY.out L[j] (List.getElem_mem _)
          have htk := HTK.out j k2
          rw [← hl1] at hbe htk
          rw [← hP.out] at htk
          obtain ⟨P2, hP2⟩ : ∃ P2, P2 = (blksB (L.take (j + 1))).length := ⟨_, rfl⟩
          rw [← hP2] at htk
          generalize rs[j] = p1 at *
          obtain ⟨A1, n1, c1, q1⟩ := p1
          simp only [Rw.v] at e1 o1 hbe htk
          have hn1 : n1 ≤ 100 := by have := o1.1.ilen; have := (bErr_ok hbe).1; omega
          obtain ⟨gE, rfl, hcE, hgE⟩ := HE.out j hjm
          rw [← hP.out] at hcE
          have e1 := (hu.cell (p := ⟨bA, oA + j, none⟩) hbA).trans e1
          have hcE := (hu.cell (p := ⟨gE, j, none⟩) hgE).trans hcE
          have o2 := o1.1.up hu
          have HTK1 := Lib.hid htk
          have HP2 := Lib.hid hP2
          have hq1 : q1.length ≤ 100 := (bErr_ok hbe).1
          clear htk hbe hl1 hP2 o1 hcA k1 k2
          go_wp2_with fail
          refine (btake_any B bn bc (blksB L) (P : Int) wr hrd8 (by omega) hbc).mono ?_
          rintro e w9 ⟨Y, yn, yc, rfl, hY, hyc, hu9⟩
          rw [HTK1.out] at hY ⊢
          (try dsimp only at hY ⊢)
          have hyn := hY.ilen
          have e1 := (hu9.cell (p := ⟨bA, oA + j, none⟩) (Nat.lt_of_lt_of_le hbA hu.size)).trans e1
          have hcE := (hu9.cell (p := ⟨gE, j, none⟩) (Nat.lt_of_lt_of_le hgE hu.size)).trans hcE
          have o3 := o2.up hu9
          have hyb : yn ≤ 100 := by omega
          have hPP : ((P : Int) != (P : Int)) = false := by simp
          clear hyn o2
          go_wp2_with fail
          refine (requal_any Y yn yc q1 A1 n1 c1 q1 w9 hY o3 (by omega) (by omega)).mono ?_
          rintro e w10 ⟨rfl, hu10⟩
          rw [show decide (q1 = q1) = true by simp]
          have hu8 := (hu.trans hu9).trans hu10
          clear hY o3 e1 hcE hrd8 hu hu9 hu10
          go_wp2_with fail
          go_roundw
          case rel => exact ⟨j + 1, P2, by go_num, rfl, by omega, by show _ = _; exact HP2.out, hu8⟩
          case measure => simp [intOf] <;> omega
        · have hjk : j = k := by omega
          have hPb : P = bn := by rw [hP.out, HBL.out, hjk, HML.out, List.take_length]
          subst hPb
          have hup8 := hup5.trans hu
          clear hvu hoku hrd hup5 hu hP hjk
          go_wp2_with fail
          refine (btake_any B P bc (blksB L) (P : Int) wr hrd8 (by omega) hbc).mono ?_
          rintro e w9 ⟨Y, yn, yc, rfl, hY, hyc, hu9⟩
          rw [HEND.out]
          (try dsimp only)
          have hrd9 := hrd8.up hu9
          clear hY hrd8
          go_wp2_with fail
          refine (btake_any B P bc (blksB L) (-1) w9 hrd9 (by omega) hbc).mono ?_
          rintro e w10 ⟨Z, zn, zc, rfl, hZ, hzc, hu10⟩
          rw [HNEG.out]
          (try dsimp only)
          have hup10 := (hup8.trans hu9).trans hu10
          have hPP : ((P : Int) == (P : Int)) = true := by simp
          clear hZ hrd9 hup8 hu9 hu10
          go_wp2_with fail
          refine (awake11_any w10).mono ?_
          rintro e w11 ⟨rfl, hu11⟩
          go_wp2_with fail
          go_ret
          exact ⟨rfl, hup10.trans hu11⟩
end Go.Proofs.Ytijekbeofpaojaa.blockRows

/-
  'clepsydra/clepsydralaw11.BlockRows': for every input the law returns true; each argument reads behind the call as it read before. No condition.
-/
namespace Go.Proofs.Ytijekbeofpaojaa.blockRows
open Go.ChangeShapes Go.WideShapes Go.ChangeAt Go.RowKit
open Go.ChangeMaps (open_string shut_string)
set_option linter.unusedVariables false

set_option maxRecDepth 100000 in
theorem lifted (os : Os) (started : os.Started) (H : Type) (enc : TypeId × Value → H) :
    ReturnsInHanded {} Try.checked os 5 .any (Rows.blockRowsSpec.pre6 enc Try.prog Try.f5 Rows.blockRowsRow.domain false) (Rows.blockRowsSpec.post enc Try.prog Try.f5 false true false false) := by
  refine returnsInHanded_of_change (C := Try.checked) prog_own started (by kernel_rfl) Try.func5
    (ChangeSpec.witness6 (enc := enc) (C := Try.checked) false ⟨#[], #[.slice none 0 0, .int .i64 0, .int .i64 0], []⟩ 8 (by kernel_rfl) (by kernel_rfl) (by kernel_rfl) (by kernel_rfl)) ?_
  intro W base args ds gs before hval0 hW hcnd _
  have hval : ∀ (j : Nat) t v, Try.f5.params[j]? = some t → args[j]? = some v → Value.okWide Try.prog W .any base t v := hval0
  have hW' := hW
  obtain ⟨p, q, hA0, hV, rfl, hfz, hnd⟩ := hW
  have hA : DataW.TrodAll enc Try.prog W 0 (fun _ => true) true Try.f5.params.toList args.toList ds p := hA0
  rw [Try.params5] at hA hval
  obtain ⟨v0, vs0, d0, ds0, p0, q0, hargs, rfl, rfl, h0, r0⟩ := trodAll_cons hA
  obtain ⟨v1, vs1, d1, ds1, p1, q1, rfl, rfl, rfl, h1, r1⟩ := trodAll_cons r0
  obtain ⟨v2, vs2, d2, ds2, p2, q2, rfl, rfl, rfl, h2, r2⟩ := trodAll_cons r1
  obtain ⟨rfl, rfl, rfl⟩ := trodAll_nil r2
  obtain rfl : args = #[v0, v1, v2] := by cases args; simp_all
  obtain ⟨rfl, rfl⟩ := trodVars_none hV
  obtain ⟨a0, len0, cap0, rfl⟩ := okWide_slice Try.underlying23 (hval 0 23 v0 rfl rfl)
  have k0 := h0
  have lt0 : ∀ x ∈ p0, x.block < W.heap.size := by obtain ⟨m, hm⟩ := k0; exact DataW.trod_lt m _ _ _ hm
  obtain ⟨l0, w0⟩ := is_i h0
  obtain ⟨a1, rfl, rfl, rfl, w1⟩ := open_int Try.underlying3 (hval 1 3 v1 rfl rfl) h1
  have b1 := bd_i64 w1
  obtain ⟨a2, rfl, rfl, rfl, w2⟩ := open_int Try.underlying3 (hval 2 3 v2 rfl rfl) h2
  have b2 := bd_i64 w2
  clear hA0 hval0
  refine (law_any a0 len0 cap0 l0 a1 a2 W w0 b1 b2).mono fun e W' ⟨he, bel⟩ => ?_
  subst he
  exact ⟨_, rfl, _, _, _, [], _, [], hW', trodAll_mk1 (shut_bool Try.underlying4 _), (trodAll_cons_mk (Below.trod laidOut (by kernel_rfl) (of_decide_eq_true (by kernel_rfl)) k0 bel lt0) (trodAll_cons_mk (shut_int Try.underlying3 w1) (trodAll_cons_mk (shut_int Try.underlying3 w2) trodAll_mk0))), rfl, bel.frame _, fun h => by cases h⟩

theorem proved : Rows.BlockRowsSaid :=
  OpenClaim.holds_of_wide 5 Try.f5 rfl rfl rfl rfl rfl rfl rfl ⟨rfl, rfl, rfl, rfl, rfl⟩ rfl rfl rfl rfl rfl (by kernel_rfl) Try.func5 (by kernel_rfl)
    (of_decide_eq_true (by kernel_rfl)) (by unfold Func.isWrapper; first | (rw [if_pos (by decide +kernel)]; kernel_rfl) | (rw [if_neg (by decide +kernel)]; exact ⟨rfl, rfl⟩))
    (fun os started H enc _ => lifted os started H enc)
#print axioms proved
end Go.Proofs.Ytijekbeofpaojaa.blockRows
