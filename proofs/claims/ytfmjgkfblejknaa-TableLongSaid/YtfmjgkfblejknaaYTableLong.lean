/-
  'clepsydra/clepsydralaw12.TableLong': for every input the law returns true; each argument reads behind the call as it read before. No condition.
-/
import Derived.Test.YtfmjgkfblejknaaZ7
/-
  The law TableLong: the walk.
-/
namespace Go.Proofs.Ytfmjgkfblejknaa.tableLong
open Go.RowKit
set_option linter.unusedVariables false
set_option linter.unusedSimpArgs false

theorem cut_lh (W : World) (b o n c i h : Nat) (h1 : i < h) (h2 : h ≤ c) :
    (Instr.slice 22 (.slice (some ⟨b, o, none⟩) n c) (some (.int .i64 (i : Int))) (some (.int .i64 (h : Int))) none).run Try.prog W = .ok (.slice (some ⟨b, o + i * 5, none⟩) (h - i) (c - i)) W := by
  rw [run_slice_lh W 22 (some ⟨b, o, none⟩) n c (by rw [elem_i]; exact Try.underlying22) .i64 .i64 (i : Int) (h : Int) (by omega) (by omega) (by omega), elem_i, sizeOf_i]
  have e2 : ¬ (c = i) := by omega
  have e4 : (⟨b, o, none⟩ : Addr).add (i * 5) = ⟨b, o + i * 5, none⟩ := by unfold Addr.add; split <;> simp_all
  simp [sliced, e2, e4]
theorem rd_lh {w : World} {B b o n i h : Nat} {l : List It} (hr : Rd w B 5 (some ⟨b, o, none⟩) n (itcs l)) (h1 : i < h) (h2 : h ≤ n) : Rd w B 5 (some ⟨b, o + i * 5, none⟩) (h - i) (itcs ((l.take h).drop i)) := by
  have h3 := (hr.toi h2).cuti (z := i) (c := h) (by omega) (Nat.le_refl _)
  unfold cutA at h3
  rw [if_neg (by omega)] at h3
  have e4 : (⟨b, o, none⟩ : Addr).add (i * 5) = ⟨b, o + i * 5, none⟩ := by unfold Addr.add; split <;> simp_all
  rw [Option.map_some, e4] at h3
  exact h3
set_option maxRecDepth 100000 in
set_option maxHeartbeats 8000000 in
theorem law_any (A : Option Addr) (ln lc : Nat) (l : List It) (n i k : Int) (w : World) (h0 : IsI w A ln lc l) (b1 : -9223372036854775808 ≤ n ∧ n ≤ 9223372036854775807) (b2 : -9223372036854775808 ≤ i ∧ i ≤ 9223372036854775807) (b3 : -9223372036854775808 ≤ k ∧ k ≤ 9223372036854775807) :
    Calls Try.prog 4 #[.slice A ln lc, .int .i64 n, .int .i64 i, .int .i64 k] w fun e w' => e = .returned (.bool true) ∧ Up w w' := by
  obtain ⟨hr, hlc, hcc⟩ := h0
  have hln : ln ≤ 9223372036854775807 := by omega
  obtain ⟨N0, hN0, hN1⟩ := i64_and_le n 1023 (by omega)
  replace hN0 : bits .and .i64 n 1023 = (N0 : Int) := hN0
  obtain ⟨N1, hNm⟩ : ∃ N1, N1 = N0 % 600 := ⟨_, rfl⟩
  obtain ⟨N, hN⟩ : ∃ N, N = N1 + 1 := ⟨_, rfl⟩
  have hNa : (N0 : Int) % 600 = (N1 : Int) := by omega
  have hNb : Int.tmod (N0 : Int) 600 = (N1 : Int) := by rw [Int.tmod_eq_emod_of_nonneg (by omega)]; exact hNa
  have hNc : IntKind.i64.wrap (N1 : Int) = (N1 : Int) := IntWalk.i64_in _ (by omega)
  have hNw : IntKind.i64.wrap ((N1 : Int) + 1) = (N : Int) := by rw [IntWalk.i64_in _ (by omega)]; omega
  have hNv : (N1 : Int) + 1 = (N : Int) := by omega
  obtain ⟨hN2, hN3⟩ : 1 ≤ N ∧ N ≤ 600 := by omega
  clear hN hNm hN1
  go_enter Try.func4, Try.ntmps4
  go_wp2_with fail
  refine (more12_any A ln lc l N w hr hln (by omega)).mono ?_
  rintro e w1 ⟨R, rc, rfl, hQ, hu1⟩
  obtain ⟨q, hq⟩ : ∃ q, q = moreL l N := ⟨_, rfl⟩
  have HNO : Hid (∀ y : It, 1000 ≤ y.t.toNat → findL q y = none) := by
    show ∀ y : It, 1000 ≤ y.t.toNat → findL q y = none
    rw [hq]; exact fun y hy => moreL_none l (by omega) hy
  have HLT : Hid (∀ j, j < N → (q.getD j noIt).t.toNat < 40) := by
    show ∀ j, j < N → (q.getD j noIt).t.toNat < 40
    intro j hj
    have h0 : j < (moreL l N).length := by rw [moreL_len]; exact hj
    rw [hq, List.getD_eq_getElem?_getD, List.getElem?_eq_getElem h0, Option.getD_some, moreL_at]
    have := (moreI_f l (i := j) (by omega)).2.2.1
    omega
  rw [← hq] at hQ
  have hql := OwnI.ilen hQ
  have hrq := Rd.own hQ
  have hcq := own_cap hQ
  have hme : makeE q = 0 := by rw [hq]; exact moreL_make l (by omega)
  have hml : makeL q = tabB q := by unfold makeL; rw [if_pos hme]
  have HMK := Lib.hid (make_any R N rc q w1 hrq hcq (by omega))
  have HE := Lib.hid hme
  have HL := Lib.hid hml
  have HQL := Lib.hid hql
  clear hme hml hq hql hr hln hlc hcc
  go_wp2_with fail
  refine HMK.out.mono ?_
  rintro e w2 ⟨B, bn, bc, rfl, hoB, hu2⟩
  rw [HE.out]
  rw [show ((0 : Nat) : Int) = 0 from rfl]
  rw [HL.out] at hoB
  have HRD := Lib.hid (tread_tab B bn bc q w2 (Rd.own hoB) HE.out (own_cap hoB))
  clear hoB HMK
  go_wp2_with fail
  refine HRD.out.mono ?_
  rintro e w3 ⟨g, m, rc3, R3, rs, rfl, hd3, hX3, hu3⟩
  rw [← HQL.out] at hd3
  have hup3 := (hu1.trans hu2).trans hu3
  have hQ3 := (hQ.up hu2).up hu3
  clear HRD hQ hrq hu1 hu2 hu3
  obtain ⟨gQ, rfl, hgQ1, hgQ2⟩ := own_some hQ3 (by omega)
  obtain ⟨C, hC, hC2⟩ := i64_and_le i 65535 (by omega)
  replace hC : bits .and .i64 i 65535 = (C : Int) := hC
  obtain ⟨D, hD, hD2⟩ := i64_and_le k 65535 (by omega)
  replace hD : bits .and .i64 k 65535 = (D : Int) := hD
  have hN0' : ¬ (N : Int) = 0 := by omega
  have hN0n : ¬ N = 0 := by omega
  obtain ⟨I, hI⟩ : ∃ I, I = C % N := ⟨_, rfl⟩
  obtain ⟨J, hJ⟩ : ∃ J, J = D % N := ⟨_, rfl⟩
  have hIN : I < N := by rw [hI]; exact Nat.mod_lt _ (by omega)
  have hJN : J < N := by rw [hJ]; exact Nat.mod_lt _ (by omega)
  have e1 : (C : Int) % (N : Int) = (I : Int) := by rw [hI]; exact (Int.natCast_emod C N).symm
  have e2 : Int.tmod (C : Int) (N : Int) = (I : Int) := by rw [Int.tmod_eq_emod_of_nonneg (by omega)]; exact e1
  have e3 : (D : Int) % (N : Int) = (J : Int) := by rw [hJ]; exact (Int.natCast_emod D N).symm
  have e4 : Int.tmod (D : Int) (N : Int) = (J : Int) := by rw [Int.tmod_eq_emod_of_nonneg (by omega)]; exact e3
  have e5 : IntKind.i64.wrap (I : Int) = (I : Int) := IntWalk.i64_in _ (by omega)
  have e6 : IntKind.i64.wrap (J : Int) = (J : Int) := IntWalk.i64_in _ (by omega)
  have e7 : (I : Int) < (N : Int) := by omega
  have e8 : (J : Int) < (N : Int) := by omega
  clear hI hJ
  go_wp2_with fail
  apply Rg.region_up (fun W => Up w3 W) (by kernel_rfl) (by kernel_rfl) (fun _ h => h)
  · intro QN hQN
    iterate 10 (apply Rg.RK.ok; (· intro vs w1 hS; go_simp; with_reducible rfl); (· rfl); simp only [Act.put, List.setIfInBounds_toArray, List.set_cons_zero, List.set_cons_succ, Nat.reduceAdd])
    apply Rg.RK.fin []
    intro vs w1 hK hS _
    refine hQN.out _ _ ?_
    clear hQN
    have hd4 := blk_up hS hd3
    have hX4 := hX3.up hS
    have hQ4 := hQ3.up hS
    have hup4 := hup3.trans hS
    clear hK hd3 hX3 hQ3 hup3 hS
    by_cases hij : J < I
    · have i1 : (J : Int) < (I : Int) := by omega
      have hab : J ≤ I := by omega
      obtain ⟨⟨u0, u1, u2, u3, u4⟩, -⟩ := own_item_at hQ4 hJN
      obtain ⟨x, hx⟩ : ∃ x, x = q.getD J noIt := ⟨_, rfl⟩
      rw [← hx] at u0 u1 u2 u3 u4
      have hxq : q[J]'(by rw [← HQL.out]; exact hJN) = x := by rw [hx]; simp [List.getD, show J < q.length by rw [← HQL.out]; exact hJN]
      have HX := Lib.hid hxq
      have hfx : findL q x = some x := by
        have h := find_at (makeE_ok HE.out).2.1 (i := J) (by rw [← HQL.out]; exact hJN) (y := x) (by rw [HX.out]; exact same_refl x)
        rw [HX.out] at h; exact h
      have HG := Lib.hid (tget_some hd4 hX4 hfx)
      clear hx hxq hfx
      go_wp2_with fail
      refine HG.out.mono ?_
      rintro e w5 ⟨rfl, hu5⟩
      have hQ5 := hQ4.up hu5
      obtain ⟨y, hy⟩ : ∃ y, y = q.getD I noIt := ⟨_, rfl⟩
      have hyt := HLT.out I hIN
      rw [← hy] at hyt
      have hv : ∀ o, (w5.alloc o).cell? ⟨gQ, I * 5, none⟩ = some (.int .i64 y.s.toInt) ∧ (w5.alloc o).cell? ⟨gQ, I * 5 + 1, none⟩ = some (.int .i64 y.k.toInt) ∧ (w5.alloc o).cell? ⟨gQ, I * 5 + 2, none⟩ = some (.int .u64 (y.t.toNat : Int)) ∧ (w5.alloc o).cell? ⟨gQ, I * 5 + 3, none⟩ = some (.int .u64 (y.v.toNat : Int)) ∧ (w5.alloc o).cell? ⟨gQ, I * 5 + 4, none⟩ = some (.int .i64 y.x.toInt) := fun o => by
        rw [hy]; exact (own_item_at (hQ5.up ((Up.refl w5).alloc o)) hIN).1
      have hyq : q[I]'(by rw [← HQL.out]; exact hIN) = y := by rw [hy]; simp [List.getD, show I < q.length by rw [← HQL.out]; exact hIN]
      have HY := Lib.hid hyq
      obtain ⟨tz, htz⟩ : ∃ tz : Nat, tz = y.t.toNat + 1000 := ⟨_, rfl⟩
      have y9 : IntKind.u64.wrap ((y.t.toNat : Int) + 1000) = (tz : Int) := by rw [IntKind.wrap_u64]; omega
      have y8 : ((y.t.toNat : Int) + 1000) % 18446744073709551616 = (tz : Int) := by omega
      have y7 : (y.t.toNat : Int) + 1000 = (tz : Int) := by omega
      obtain ⟨w6, hw6⟩ : ∃ w6, w6 = (w5.alloc (.cells #[.int .i64 x.s.toInt, .int .i64 x.k.toInt, .int .u64 (x.t.toNat : Int), .int .u64 (x.v.toNat : Int), .int .i64 x.x.toInt] 35)).alloc (.cells #[.int .i64 y.s.toInt, .int .i64 y.k.toInt, .int .u64 (tz : Int), .int .u64 (y.v.toNat : Int), .int .i64 y.x.toInt] 35) := ⟨_, rfl⟩
      have hu56 : Up w5 w6 := by rw [hw6]; exact ((Up.refl w5).alloc _).alloc _
      have hx6 : w6.heap[w5.heap.size]? = some (.cells #[.int .i64 x.s.toInt, .int .i64 x.k.toInt, .int .u64 (x.t.toNat : Int), .int .u64 (x.v.toNat : Int), .int .i64 x.x.toInt] 35 (0, 0)) := by
        rw [hw6, Below.heap_alloc _ _ _ (by simp)]; exact heap_alloc_new w5 _
      have hd6 := blk_up hu56 (blk_up hu5 hd4)
      have hX6 := (hX4.up hu5).up hu56
      have hQ6 := hQ5.up hu56
      have hup6 := (hup4.trans hu5).trans hu56
      have hg2 : Calls Try.prog 11 #[.pointer (some ⟨g, 0, none⟩), .agg #[.int .i64 y.s.toInt, .int .i64 y.k.toInt, .int .u64 (tz : Int), .int .u64 (y.v.toNat : Int), .int .i64 y.x.toInt]] w6 fun e w' => e = .returned (.tuple #[.agg #[.int .i64 0, .int .i64 0, .int .u64 0, .int .u64 0, .int .i64 0], .bool false]) ∧ Up w6 w' := by
        have ht : (UInt64.ofNat tz).toNat = tz := by simp; omega
        have h := tget_none hd6 hX6 (x := ⟨y.s, y.k, UInt64.ofNat tz, y.v, y.x⟩) (HNO.out _ (by show 1000 ≤ (UInt64.ofNat tz).toNat; omega))
        simp only [ht] at h
        exact h
      have HG2 := Lib.hid hg2
      have HW6 := Lib.hid hw6
      clear hg2 hw6 hu56 hu5 hd4 hX4 hQ4 hQ5 hup4 hy hyq htz u0 u1 u2 u3 u4
      go_wp2_with fail
      rw [← HW6.out]
      refine HG2.out.mono ?_
      rintro e w7 ⟨rfl, hu7⟩
      obtain ⟨w8, hw8⟩ : ∃ w8, w8 = w7.alloc (.cells #[.int .i64 0, .int .i64 0, .int .u64 0, .int .u64 0, .int .i64 0] 35) := ⟨_, rfl⟩
      have hu78 : Up w6 w8 := by rw [hw8]; exact hu7.alloc _
      have hd8 := blk_up hu78 hd6
      have hX8 := hX6.up hu78
      have hQ8 := hQ6.up hu78
      have hup8 := hup6.trans hu78
      have hx8 := blk_up hu78 hx6
      have HW8 := Lib.hid hw8
      generalize hg9 : w5.heap.size = g9 at *
      obtain ⟨H, hH⟩ : ∃ H, H = I + 1 := ⟨_, rfl⟩
      have hH1 : (I : Int) + 1 = (H : Int) := by omega
      have hH2 : IntKind.i64.wrap (H : Int) = (H : Int) := IntWalk.i64_in _ (by omega)
      have hCUT := fun W => cut_lh W gQ 0 N rc J H (by omega) (by omega)
      rw [Nat.zero_add] at hCUT
      have hS : ∀ W, Up w8 W → (((W.cell? ⟨g9, 0, none⟩ = some (.int .i64 x.s.toInt) ∧ W.cell? ⟨g9, 1, none⟩ = some (.int .i64 x.k.toInt) ∧ W.cell? ⟨g9, 2, none⟩ = some (.int .u64 (x.t.toNat : Int)) ∧ W.cell? ⟨g9, 3, none⟩ = some (.int .u64 (x.v.toNat : Int)) ∧ W.cell? ⟨g9, 4, none⟩ = some (.int .i64 x.x.toInt)) ∧
          (W.cell? ⟨gQ, J * 5, none⟩ = some (.int .i64 x.s.toInt) ∧ W.cell? ⟨gQ, J * 5 + 1, none⟩ = some (.int .i64 x.k.toInt) ∧ W.cell? ⟨gQ, J * 5 + 2, none⟩ = some (.int .u64 (x.t.toNat : Int)) ∧ W.cell? ⟨gQ, J * 5 + 3, none⟩ = some (.int .u64 (x.v.toNat : Int)) ∧ W.cell? ⟨gQ, J * 5 + 4, none⟩ = some (.int .i64 x.x.toInt)) ∧
          (W.cell? ⟨gQ, I * 5, none⟩ = some (.int .i64 y.s.toInt) ∧ W.cell? ⟨gQ, I * 5 + 1, none⟩ = some (.int .i64 y.k.toInt) ∧ W.cell? ⟨gQ, I * 5 + 2, none⟩ = some (.int .u64 (y.t.toNat : Int)) ∧ W.cell? ⟨gQ, I * 5 + 3, none⟩ = some (.int .u64 (y.v.toNat : Int)) ∧ W.cell? ⟨gQ, I * 5 + 4, none⟩ = some (.int .i64 y.x.toInt))) ∧ Up w8 W) := fun W h => by
        have h1 := (own_item_at (hQ8.up h) hJN).1
        have h2 := (own_item_at (hQ8.up h) hIN).1
        have f1 : q.getD J noIt = x := by rw [← HX.out]; simp [List.getD, show J < q.length by rw [← HQL.out]; exact hJN]
        have f2 : q.getD I noIt = y := by rw [← HY.out]; simp [List.getD, show I < q.length by rw [← HQL.out]; exact hIN]
        rw [f1] at h1
        rw [f2] at h2
        have h5 := blk_up h hx8
        exact ⟨⟨⟨blk_cell h5 0, blk_cell h5 1, blk_cell h5 2, blk_cell h5 3, blk_cell h5 4⟩, h1, h2⟩, h⟩
      have hrg : rangeL q x y = (q.take H).drop J := by
        have h := rangeL_mid (makeE_ok HE.out).2.1 (i := J) (k := I) (by rw [← HQL.out]; exact hIN) hab
        rw [HX.out, HY.out, ← hH] at h; exact h
      have HRG := Lib.hid hrg
      have HHH := Lib.hid hH
      have hHN : H ≤ N := by omega
      have haH : J < H := by omega
      clear hrg hH hw8 hu78 hu7 hd6 hX6 hQ6 hup6 hx6 HG HG2 hx8 y7 y8 y9 hv HW6
      go_wp2_with fail
      rw [← HW8.out]
      apply Rg.region_up _ (by kernel_rfl) (by kernel_rfl) hS
      · intro QN hQN
        iterate 2 (apply Rg.RK.ok; (· intro vs w1 hS; go_simp; with_reducible rfl); (· rfl); simp only [Act.put, List.setIfInBounds_toArray, List.set_cons_zero, List.set_cons_succ, Nat.reduceAdd])
        iterate 6 (apply Rg.RK.gok (t := 83); (· intro vs w1 hS; go_simp; with_reducible rfl); (· rfl); (· intro vs; rfl); simp only [Act.put, List.setIfInBounds_toArray, List.set_cons_zero, List.set_cons_succ, Nat.reduceAdd])
        iterate 2 (apply Rg.RK.ok; (· intro vs w1 hS; go_simp; with_reducible rfl); (· rfl); simp only [Act.put, List.setIfInBounds_toArray, List.set_cons_zero, List.set_cons_succ, Nat.reduceAdd])
        iterate 2 (apply Rg.RK.gok (t := 91); (· intro vs w1 hS; go_simp; with_reducible rfl); (· rfl); (· intro vs; rfl); simp only [Act.put, List.setIfInBounds_toArray, List.set_cons_zero, List.set_cons_succ, Nat.reduceAdd])
        iterate 2 (apply Rg.RK.ok; (· intro vs w1 hS; go_simp; with_reducible rfl); (· rfl); simp only [Act.put, List.setIfInBounds_toArray, List.set_cons_zero, List.set_cons_succ, Nat.reduceAdd])
        iterate 9 (apply Rg.RK.gok (t := 95); (· intro vs w1 hS; go_simp; with_reducible rfl); (· rfl); (· intro vs; rfl); simp only [Act.put, List.setIfInBounds_toArray, List.set_cons_zero, List.set_cons_succ, Nat.reduceAdd])
        apply Rg.RK.gopn (t := 95) (Sl 5 (itcs (rangeL q x y))) Rg.ob [] []
        · exact fun v W1 W2 h hs => h.sta hs
        · rfl
        · intro vs; rfl
        · intro vs w9 hK hS hf K hKK
          go_simp
          refine (trange_x (blk_up hS.2 hd8) (hX8.up hS.2) x y).mono ?_
          rintro e w10 ⟨A9, n9, rfl, hr9, hn9, hu9⟩
          refine hKK.out _ _ ⟨A9, n9, n9, rfl, Nat.le_refl _, hr9⟩ (Rg.Keeps.of_up hu9) (fun k hk => ?_)
          cases A9 with
          | none => exact hk.elim
          | some a9 =>
            have hkk : a9.block = k := hk
            have := hn9 a9 rfl
            exact ⟨by omega, .inl (by omega)⟩
        simp only [Act.put, List.setIfInBounds_toArray, List.set_cons_zero, List.set_cons_succ, Nat.reduceAdd]
        iterate 5 (apply Rg.RK.gok (t := 95); (· intro vs w1 hS; go_simp; with_reducible rfl); (· rfl); (· intro vs; rfl); simp only [Act.put, List.setIfInBounds_toArray, List.set_cons_zero, List.set_cons_succ, Nat.reduceAdd])
        apply Rg.RK.gcall (t := 95) (.bool true) [23]
        · rfl
        · intro vs; rfl
        · intro vs w9 hK hS hf K hKK
          obtain ⟨⟨A9, n9, c9, hv, hnc, hrd⟩, -⟩ := hf
          have hl9 := hrd.ilen
          have HL9 := Lib.hid hl9
          clear hl9
          (try dsimp only at hKK ⊢)
          rw [hv] at hKK ⊢
          go_simp
          have hQ9 := rd_lh (Rd.own (hQ8.up hS.2)) haH hHN
          rw [Nat.zero_add] at hQ9
          have hle : n9 ≤ 1099511627776 := by
            have h1 := HL9.out
            have h2 := rangeL_len q x y
            have h3 := HQL.out
            omega
          refine (requal_any A9 n9 c9 _ _ (H - J) (rc - J) _ w9 hrd hQ9 hle (by omega)).mono ?_
          rintro e w10 ⟨rfl, hu10⟩
          rw [decide_eq_true HRG.out]
          exact hKK.out _ hu10
        simp only [Act.put, List.setIfInBounds_toArray, List.set_cons_zero, List.set_cons_succ, Nat.reduceAdd]
        iterate 2 (apply Rg.RK.ok; (· intro vs w1 hS; go_simp; with_reducible rfl); (· rfl); simp only [Act.put, List.setIfInBounds_toArray, List.set_cons_zero, List.set_cons_succ, Nat.reduceAdd])
        iterate 1 (apply Rg.RK.gok (t := 113); (· intro vs w1 hS; go_simp; with_reducible rfl); (· rfl); (· intro vs; rfl); simp only [Act.put, List.setIfInBounds_toArray, List.set_cons_zero, List.set_cons_succ, Nat.reduceAdd])
        apply Rg.RK.gcall (t := 113) (.int .i64 (N : Int)) []
        · rfl
        · intro vs; rfl
        · intro vs w9 hK hS _ K hKK
          go_simp
          refine (tlen_any g m rc3 N 0 R3 none w9 (blk_up hS.2 hd8)).mono ?_
          rintro e w2 ⟨rfl, rfl⟩
          exact hKK.out _ (Up.refl _)
        simp only [Act.put, List.setIfInBounds_toArray, List.set_cons_zero, List.set_cons_succ, Nat.reduceAdd]
        iterate 2 (apply Rg.RK.gok (t := 113); (· intro vs w1 hS; go_simp; with_reducible rfl); (· rfl); (· intro vs; rfl); simp only [Act.put, List.setIfInBounds_toArray, List.set_cons_zero, List.set_cons_succ, Nat.reduceAdd])
        iterate 2 (apply Rg.RK.ok; (· intro vs w1 hS; go_simp; with_reducible rfl); (· rfl); simp only [Act.put, List.setIfInBounds_toArray, List.set_cons_zero, List.set_cons_succ, Nat.reduceAdd])
        apply Rg.RK.gcall (t := 119) (.bool true) []
        · rfl
        · intro vs; rfl
        · intro vs w1 hK hS _ K hKK
          go_simp
          refine (awake12_any w1).mono ?_
          rintro e w2 ⟨rfl, hu2⟩
          exact hKK.out _ hu2
        simp only [Act.put, List.setIfInBounds_toArray, List.set_cons_zero, List.set_cons_succ, Nat.reduceAdd]
        iterate 2 (apply Rg.RK.ok; (· intro vs w1 hS; go_simp; with_reducible rfl); (· rfl); simp only [Act.put, List.setIfInBounds_toArray, List.set_cons_zero, List.set_cons_succ, Nat.reduceAdd])
        apply Rg.RK.fin []
        intro vs w1 hK hS _
        refine hQN.out _ _ ?_
        clear hQN
        go_wp2_with fail
        go_ret
        exact ⟨rfl, hup8.trans hS.2⟩
      · kernel_rfl
    · have i1 : ¬ (J : Int) < (I : Int) := by omega
      have hab : I ≤ J := by omega
      obtain ⟨⟨u0, u1, u2, u3, u4⟩, -⟩ := own_item_at hQ4 hIN
      obtain ⟨x, hx⟩ : ∃ x, x = q.getD I noIt := ⟨_, rfl⟩
      rw [← hx] at u0 u1 u2 u3 u4
      have hxq : q[I]'(by rw [← HQL.out]; exact hIN) = x := by rw [hx]; simp [List.getD, show I < q.length by rw [← HQL.out]; exact hIN]
      have HX := Lib.hid hxq
      have hfx : findL q x = some x := by
        have h := find_at (makeE_ok HE.out).2.1 (i := I) (by rw [← HQL.out]; exact hIN) (y := x) (by rw [HX.out]; exact same_refl x)
        rw [HX.out] at h; exact h
      have HG := Lib.hid (tget_some hd4 hX4 hfx)
      clear hx hxq hfx
      go_wp2_with fail
      refine HG.out.mono ?_
      rintro e w5 ⟨rfl, hu5⟩
      have hQ5 := hQ4.up hu5
      obtain ⟨y, hy⟩ : ∃ y, y = q.getD J noIt := ⟨_, rfl⟩
      have hyt := HLT.out J hJN
      rw [← hy] at hyt
      have hv : ∀ o, (w5.alloc o).cell? ⟨gQ, J * 5, none⟩ = some (.int .i64 y.s.toInt) ∧ (w5.alloc o).cell? ⟨gQ, J * 5 + 1, none⟩ = some (.int .i64 y.k.toInt) ∧ (w5.alloc o).cell? ⟨gQ, J * 5 + 2, none⟩ = some (.int .u64 (y.t.toNat : Int)) ∧ (w5.alloc o).cell? ⟨gQ, J * 5 + 3, none⟩ = some (.int .u64 (y.v.toNat : Int)) ∧ (w5.alloc o).cell? ⟨gQ, J * 5 + 4, none⟩ = some (.int .i64 y.x.toInt) := fun o => by
        rw [hy]; exact (own_item_at (hQ5.up ((Up.refl w5).alloc o)) hJN).1
      have hyq : q[J]'(by rw [← HQL.out]; exact hJN) = y := by rw [hy]; simp [List.getD, show J < q.length by rw [← HQL.out]; exact hJN]
      have HY := Lib.hid hyq
      obtain ⟨tz, htz⟩ : ∃ tz : Nat, tz = y.t.toNat + 1000 := ⟨_, rfl⟩
      have y9 : IntKind.u64.wrap ((y.t.toNat : Int) + 1000) = (tz : Int) := by rw [IntKind.wrap_u64]; omega
      have y8 : ((y.t.toNat : Int) + 1000) % 18446744073709551616 = (tz : Int) := by omega
      have y7 : (y.t.toNat : Int) + 1000 = (tz : Int) := by omega
      obtain ⟨w6, hw6⟩ : ∃ w6, w6 = (w5.alloc (.cells #[.int .i64 x.s.toInt, .int .i64 x.k.toInt, .int .u64 (x.t.toNat : Int), .int .u64 (x.v.toNat : Int), .int .i64 x.x.toInt] 35)).alloc (.cells #[.int .i64 y.s.toInt, .int .i64 y.k.toInt, .int .u64 (tz : Int), .int .u64 (y.v.toNat : Int), .int .i64 y.x.toInt] 35) := ⟨_, rfl⟩
      have hu56 : Up w5 w6 := by rw [hw6]; exact ((Up.refl w5).alloc _).alloc _
      have hx6 : w6.heap[w5.heap.size]? = some (.cells #[.int .i64 x.s.toInt, .int .i64 x.k.toInt, .int .u64 (x.t.toNat : Int), .int .u64 (x.v.toNat : Int), .int .i64 x.x.toInt] 35 (0, 0)) := by
        rw [hw6, Below.heap_alloc _ _ _ (by simp)]; exact heap_alloc_new w5 _
      have hd6 := blk_up hu56 (blk_up hu5 hd4)
      have hX6 := (hX4.up hu5).up hu56
      have hQ6 := hQ5.up hu56
      have hup6 := (hup4.trans hu5).trans hu56
      have hg2 : Calls Try.prog 11 #[.pointer (some ⟨g, 0, none⟩), .agg #[.int .i64 y.s.toInt, .int .i64 y.k.toInt, .int .u64 (tz : Int), .int .u64 (y.v.toNat : Int), .int .i64 y.x.toInt]] w6 fun e w' => e = .returned (.tuple #[.agg #[.int .i64 0, .int .i64 0, .int .u64 0, .int .u64 0, .int .i64 0], .bool false]) ∧ Up w6 w' := by
        have ht : (UInt64.ofNat tz).toNat = tz := by simp; omega
        have h := tget_none hd6 hX6 (x := ⟨y.s, y.k, UInt64.ofNat tz, y.v, y.x⟩) (HNO.out _ (by show 1000 ≤ (UInt64.ofNat tz).toNat; omega))
        simp only [ht] at h
        exact h
      have HG2 := Lib.hid hg2
      have HW6 := Lib.hid hw6
      clear hg2 hw6 hu56 hu5 hd4 hX4 hQ4 hQ5 hup4 hy hyq htz u0 u1 u2 u3 u4
      go_wp2_with fail
      rw [← HW6.out]
      refine HG2.out.mono ?_
      rintro e w7 ⟨rfl, hu7⟩
      obtain ⟨w8, hw8⟩ : ∃ w8, w8 = w7.alloc (.cells #[.int .i64 0, .int .i64 0, .int .u64 0, .int .u64 0, .int .i64 0] 35) := ⟨_, rfl⟩
      have hu78 : Up w6 w8 := by rw [hw8]; exact hu7.alloc _
      have hd8 := blk_up hu78 hd6
      have hX8 := hX6.up hu78
      have hQ8 := hQ6.up hu78
      have hup8 := hup6.trans hu78
      have hx8 := blk_up hu78 hx6
      have HW8 := Lib.hid hw8
      generalize hg9 : w5.heap.size = g9 at *
      obtain ⟨H, hH⟩ : ∃ H, H = J + 1 := ⟨_, rfl⟩
      have hH1 : (J : Int) + 1 = (H : Int) := by omega
      have hH2 : IntKind.i64.wrap (H : Int) = (H : Int) := IntWalk.i64_in _ (by omega)
      have hCUT := fun W => cut_lh W gQ 0 N rc I H (by omega) (by omega)
      rw [Nat.zero_add] at hCUT
      have hS : ∀ W, Up w8 W → (((W.cell? ⟨g9, 0, none⟩ = some (.int .i64 x.s.toInt) ∧ W.cell? ⟨g9, 1, none⟩ = some (.int .i64 x.k.toInt) ∧ W.cell? ⟨g9, 2, none⟩ = some (.int .u64 (x.t.toNat : Int)) ∧ W.cell? ⟨g9, 3, none⟩ = some (.int .u64 (x.v.toNat : Int)) ∧ W.cell? ⟨g9, 4, none⟩ = some (.int .i64 x.x.toInt)) ∧
          (W.cell? ⟨gQ, I * 5, none⟩ = some (.int .i64 x.s.toInt) ∧ W.cell? ⟨gQ, I * 5 + 1, none⟩ = some (.int .i64 x.k.toInt) ∧ W.cell? ⟨gQ, I * 5 + 2, none⟩ = some (.int .u64 (x.t.toNat : Int)) ∧ W.cell? ⟨gQ, I * 5 + 3, none⟩ = some (.int .u64 (x.v.toNat : Int)) ∧ W.cell? ⟨gQ, I * 5 + 4, none⟩ = some (.int .i64 x.x.toInt)) ∧
          (W.cell? ⟨gQ, J * 5, none⟩ = some (.int .i64 y.s.toInt) ∧ W.cell? ⟨gQ, J * 5 + 1, none⟩ = some (.int .i64 y.k.toInt) ∧ W.cell? ⟨gQ, J * 5 + 2, none⟩ = some (.int .u64 (y.t.toNat : Int)) ∧ W.cell? ⟨gQ, J * 5 + 3, none⟩ = some (.int .u64 (y.v.toNat : Int)) ∧ W.cell? ⟨gQ, J * 5 + 4, none⟩ = some (.int .i64 y.x.toInt))) ∧ Up w8 W) := fun W h => by
        have h1 := (own_item_at (hQ8.up h) hIN).1
        have h2 := (own_item_at (hQ8.up h) hJN).1
        have f1 : q.getD I noIt = x := by rw [← HX.out]; simp [List.getD, show I < q.length by rw [← HQL.out]; exact hIN]
        have f2 : q.getD J noIt = y := by rw [← HY.out]; simp [List.getD, show J < q.length by rw [← HQL.out]; exact hJN]
        rw [f1] at h1
        rw [f2] at h2
        have h5 := blk_up h hx8
        exact ⟨⟨⟨blk_cell h5 0, blk_cell h5 1, blk_cell h5 2, blk_cell h5 3, blk_cell h5 4⟩, h1, h2⟩, h⟩
      have hrg : rangeL q x y = (q.take H).drop I := by
        have h := rangeL_mid (makeE_ok HE.out).2.1 (i := I) (k := J) (by rw [← HQL.out]; exact hJN) hab
        rw [HX.out, HY.out, ← hH] at h; exact h
      have HRG := Lib.hid hrg
      have HHH := Lib.hid hH
      have hHN : H ≤ N := by omega
      have haH : I < H := by omega
      clear hrg hH hw8 hu78 hu7 hd6 hX6 hQ6 hup6 hx6 HG HG2 hx8 y7 y8 y9 hv HW6
      go_wp2_with fail
      rw [← HW8.out]
      apply Rg.region_up _ (by kernel_rfl) (by kernel_rfl) hS
      · intro QN hQN
        iterate 2 (apply Rg.RK.ok; (· intro vs w1 hS; go_simp; with_reducible rfl); (· rfl); simp only [Act.put, List.setIfInBounds_toArray, List.set_cons_zero, List.set_cons_succ, Nat.reduceAdd])
        iterate 6 (apply Rg.RK.gok (t := 83); (· intro vs w1 hS; go_simp; with_reducible rfl); (· rfl); (· intro vs; rfl); simp only [Act.put, List.setIfInBounds_toArray, List.set_cons_zero, List.set_cons_succ, Nat.reduceAdd])
        iterate 2 (apply Rg.RK.ok; (· intro vs w1 hS; go_simp; with_reducible rfl); (· rfl); simp only [Act.put, List.setIfInBounds_toArray, List.set_cons_zero, List.set_cons_succ, Nat.reduceAdd])
        iterate 2 (apply Rg.RK.gok (t := 91); (· intro vs w1 hS; go_simp; with_reducible rfl); (· rfl); (· intro vs; rfl); simp only [Act.put, List.setIfInBounds_toArray, List.set_cons_zero, List.set_cons_succ, Nat.reduceAdd])
        iterate 2 (apply Rg.RK.ok; (· intro vs w1 hS; go_simp; with_reducible rfl); (· rfl); simp only [Act.put, List.setIfInBounds_toArray, List.set_cons_zero, List.set_cons_succ, Nat.reduceAdd])
        iterate 9 (apply Rg.RK.gok (t := 95); (· intro vs w1 hS; go_simp; with_reducible rfl); (· rfl); (· intro vs; rfl); simp only [Act.put, List.setIfInBounds_toArray, List.set_cons_zero, List.set_cons_succ, Nat.reduceAdd])
        apply Rg.RK.gopn (t := 95) (Sl 5 (itcs (rangeL q x y))) Rg.ob [] []
        · exact fun v W1 W2 h hs => h.sta hs
        · rfl
        · intro vs; rfl
        · intro vs w9 hK hS hf K hKK
          go_simp
          refine (trange_x (blk_up hS.2 hd8) (hX8.up hS.2) x y).mono ?_
          rintro e w10 ⟨A9, n9, rfl, hr9, hn9, hu9⟩
          refine hKK.out _ _ ⟨A9, n9, n9, rfl, Nat.le_refl _, hr9⟩ (Rg.Keeps.of_up hu9) (fun k hk => ?_)
          cases A9 with
          | none => exact hk.elim
          | some a9 =>
            have hkk : a9.block = k := hk
            have := hn9 a9 rfl
            exact ⟨by omega, .inl (by omega)⟩
        simp only [Act.put, List.setIfInBounds_toArray, List.set_cons_zero, List.set_cons_succ, Nat.reduceAdd]
        iterate 5 (apply Rg.RK.gok (t := 95); (· intro vs w1 hS; go_simp; with_reducible rfl); (· rfl); (· intro vs; rfl); simp only [Act.put, List.setIfInBounds_toArray, List.set_cons_zero, List.set_cons_succ, Nat.reduceAdd])
        apply Rg.RK.gcall (t := 95) (.bool true) [23]
        · rfl
        · intro vs; rfl
        · intro vs w9 hK hS hf K hKK
          obtain ⟨⟨A9, n9, c9, hv, hnc, hrd⟩, -⟩ := hf
          have hl9 := hrd.ilen
          have HL9 := Lib.hid hl9
          clear hl9
          (try dsimp only at hKK ⊢)
          rw [hv] at hKK ⊢
          go_simp
          have hQ9 := rd_lh (Rd.own (hQ8.up hS.2)) haH hHN
          rw [Nat.zero_add] at hQ9
          have hle : n9 ≤ 1099511627776 := by
            have h1 := HL9.out
            have h2 := rangeL_len q x y
            have h3 := HQL.out
            omega
          refine (requal_any A9 n9 c9 _ _ (H - I) (rc - I) _ w9 hrd hQ9 hle (by omega)).mono ?_
          rintro e w10 ⟨rfl, hu10⟩
          rw [decide_eq_true HRG.out]
          exact hKK.out _ hu10
        simp only [Act.put, List.setIfInBounds_toArray, List.set_cons_zero, List.set_cons_succ, Nat.reduceAdd]
        iterate 2 (apply Rg.RK.ok; (· intro vs w1 hS; go_simp; with_reducible rfl); (· rfl); simp only [Act.put, List.setIfInBounds_toArray, List.set_cons_zero, List.set_cons_succ, Nat.reduceAdd])
        iterate 1 (apply Rg.RK.gok (t := 113); (· intro vs w1 hS; go_simp; with_reducible rfl); (· rfl); (· intro vs; rfl); simp only [Act.put, List.setIfInBounds_toArray, List.set_cons_zero, List.set_cons_succ, Nat.reduceAdd])
        apply Rg.RK.gcall (t := 113) (.int .i64 (N : Int)) []
        · rfl
        · intro vs; rfl
        · intro vs w9 hK hS _ K hKK
          go_simp
          refine (tlen_any g m rc3 N 0 R3 none w9 (blk_up hS.2 hd8)).mono ?_
          rintro e w2 ⟨rfl, rfl⟩
          exact hKK.out _ (Up.refl _)
        simp only [Act.put, List.setIfInBounds_toArray, List.set_cons_zero, List.set_cons_succ, Nat.reduceAdd]
        iterate 2 (apply Rg.RK.gok (t := 113); (· intro vs w1 hS; go_simp; with_reducible rfl); (· rfl); (· intro vs; rfl); simp only [Act.put, List.setIfInBounds_toArray, List.set_cons_zero, List.set_cons_succ, Nat.reduceAdd])
        iterate 2 (apply Rg.RK.ok; (· intro vs w1 hS; go_simp; with_reducible rfl); (· rfl); simp only [Act.put, List.setIfInBounds_toArray, List.set_cons_zero, List.set_cons_succ, Nat.reduceAdd])
        apply Rg.RK.gcall (t := 119) (.bool true) []
        · rfl
        · intro vs; rfl
        · intro vs w1 hK hS _ K hKK
          go_simp
          refine (awake12_any w1).mono ?_
          rintro e w2 ⟨rfl, hu2⟩
          exact hKK.out _ hu2
        simp only [Act.put, List.setIfInBounds_toArray, List.set_cons_zero, List.set_cons_succ, Nat.reduceAdd]
        iterate 2 (apply Rg.RK.ok; (· intro vs w1 hS; go_simp; with_reducible rfl); (· rfl); simp only [Act.put, List.setIfInBounds_toArray, List.set_cons_zero, List.set_cons_succ, Nat.reduceAdd])
        apply Rg.RK.fin []
        intro vs w1 hK hS _
        refine hQN.out _ _ ?_
        clear hQN
        go_wp2_with fail
        go_ret
        exact ⟨rfl, hup8.trans hS.2⟩
      · kernel_rfl
  · kernel_rfl
end Go.Proofs.Ytfmjgkfblejknaa.tableLong

/-
  'clepsydra/clepsydralaw12.TableLong': for every input the law returns true; each argument reads behind the call as it read before. No condition.
-/
namespace Go.Proofs.Ytfmjgkfblejknaa.tableLong
open Go.ChangeShapes Go.WideShapes Go.ChangeAt Go.RowKit
open Go.ChangeMaps (open_string shut_string)
set_option linter.unusedVariables false

set_option maxRecDepth 100000 in
theorem lifted (os : Os) (started : os.Started) (H : Type) (enc : TypeId × Value → H) :
    ReturnsInHanded {} Try.checked os 4 .any (Rows.tableLongSpec.pre6 enc Try.prog Try.f4 Rows.tableLongRow.domain false) (Rows.tableLongSpec.post enc Try.prog Try.f4 false true false false) := by
  refine returnsInHanded_of_change (C := Try.checked) prog_own started (by kernel_rfl) Try.func4
    (ChangeSpec.witness6 (enc := enc) (C := Try.checked) false ⟨#[], #[.slice none 0 0, .int .i64 0, .int .i64 0, .int .i64 0], []⟩ 8 (by kernel_rfl) (by kernel_rfl) (by kernel_rfl) (by kernel_rfl)) ?_
  intro W base args ds gs before hval0 hW hcnd _
  have hval : ∀ (j : Nat) t v, Try.f4.params[j]? = some t → args[j]? = some v → Value.okWide Try.prog W .any base t v := hval0
  have hW' := hW
  obtain ⟨p, q, hA0, hV, rfl, hfz, hnd⟩ := hW
  have hA : DataW.TrodAll enc Try.prog W 0 (fun _ => true) true Try.f4.params.toList args.toList ds p := hA0
  rw [Try.params4] at hA hval
  obtain ⟨v0, vs0, d0, ds0, p0, q0, hargs, rfl, rfl, h0, r0⟩ := trodAll_cons hA
  obtain ⟨v1, vs1, d1, ds1, p1, q1, rfl, rfl, rfl, h1, r1⟩ := trodAll_cons r0
  obtain ⟨v2, vs2, d2, ds2, p2, q2, rfl, rfl, rfl, h2, r2⟩ := trodAll_cons r1
  obtain ⟨v3, vs3, d3, ds3, p3, q3, rfl, rfl, rfl, h3, r3⟩ := trodAll_cons r2
  obtain ⟨rfl, rfl, rfl⟩ := trodAll_nil r3
  obtain rfl : args = #[v0, v1, v2, v3] := by cases args; simp_all
  obtain ⟨rfl, rfl⟩ := trodVars_none hV
  obtain ⟨a0, len0, cap0, rfl⟩ := okWide_slice Try.underlying22 (hval 0 22 v0 rfl rfl)
  have k0 := h0
  have lt0 : ∀ x ∈ p0, x.block < W.heap.size := by obtain ⟨m, hm⟩ := k0; exact DataW.trod_lt m _ _ _ hm
  obtain ⟨l0, w0⟩ := is_i h0
  obtain ⟨a1, rfl, rfl, rfl, w1⟩ := open_int Try.underlying3 (hval 1 3 v1 rfl rfl) h1
  have b1 := bd_i64 w1
  obtain ⟨a2, rfl, rfl, rfl, w2⟩ := open_int Try.underlying3 (hval 2 3 v2 rfl rfl) h2
  have b2 := bd_i64 w2
  obtain ⟨a3, rfl, rfl, rfl, w3⟩ := open_int Try.underlying3 (hval 3 3 v3 rfl rfl) h3
  have b3 := bd_i64 w3
  clear hA0 hval0
  refine (law_any a0 len0 cap0 l0 a1 a2 a3 W w0 b1 b2 b3).mono fun e W' ⟨he, bel⟩ => ?_
  subst he
  exact ⟨_, rfl, _, _, _, [], _, [], hW', trodAll_mk1 (shut_bool Try.underlying4 _), (trodAll_cons_mk (Below.trod laidOut (by kernel_rfl) (of_decide_eq_true (by kernel_rfl)) k0 bel lt0) (trodAll_cons_mk (shut_int Try.underlying3 w1) (trodAll_cons_mk (shut_int Try.underlying3 w2) (trodAll_cons_mk (shut_int Try.underlying3 w3) trodAll_mk0)))), rfl, bel.frame _, fun h => by cases h⟩

theorem proved : Rows.TableLongSaid :=
  OpenClaim.holds_of_wide 4 Try.f4 rfl rfl rfl rfl rfl rfl rfl ⟨rfl, rfl, rfl, rfl, rfl⟩ rfl rfl rfl rfl rfl (by kernel_rfl) Try.func4 (by kernel_rfl)
    (of_decide_eq_true (by kernel_rfl)) (by unfold Func.isWrapper; first | (rw [if_pos (by decide +kernel)]; kernel_rfl) | (rw [if_neg (by decide +kernel)]; exact ⟨rfl, rfl⟩))
    (fun os started H enc _ => lifted os started H enc)
#print axioms proved
end Go.Proofs.Ytfmjgkfblejknaa.tableLong
