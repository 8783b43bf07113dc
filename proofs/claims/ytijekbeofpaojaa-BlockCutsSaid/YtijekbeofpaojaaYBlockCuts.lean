/-
  'clepsydra/clepsydralaw11.BlockCuts': for every input the law returns true; each argument reads behind the call as it read before. No condition.
-/
import Derived.Test.YtijekbeofpaojaaZ5
/-
  The law BlockCuts: the walk.
-/
namespace Go.Proofs.Ytijekbeofpaojaa.blockCuts
open Go.RowKit
set_option linter.unusedVariables false
set_option linter.unusedSimpArgs false

theorem keepsT {X : Nat → Prop} {a b c : World} (h : Rg.Keeps X a b) (k : Rg.Keeps X b c) : Rg.Keeps X a c :=
  ⟨k.os.trans h.os, k.tape.trans h.tape, k.output.trans h.output, Nat.le_trans h.size k.size, fun j hj hx => (k.block j (Nat.lt_of_lt_of_le hj h.size) hx).trans (h.block j hj hx)⟩
/-- the last that is the same -/
def wantL (l : List It) (x : It) (a : Option It) : Option It := l.foldl (fun a y => if sameB y x then some y else a) a
theorem wantL_find : ∀ (l : List It) (x : It) (a : Option It), riseR l → wantL l x a = (match findL l x with | some y => some y | none => a)
  | [], x, a, _ => rfl
  | b :: r, x, a, h => by
    have ih := wantL_find r x (if sameB b x then some b else a) (riseR_tail h)
    have e : wantL (b :: r) x a = wantL r x (if sameB b x then some b else a) := rfl
    rw [e, ih]
    by_cases hs : sameB b x = true
    · have hn : findL r x = none := by
        unfold findL
        rw [List.find?_eq_none]
        intro y hy h1
        have h2 := riseR_all h y hy
        rw [same_iff] at hs h1
        rw [less_iff] at h2
        omega
      have hf : findL (b :: r) x = some b := by unfold findL; rw [List.find?_cons, hs]
      rw [hn, hf, if_pos hs]
    · have hf : findL (b :: r) x = findL r x := by
        unfold findL; rw [List.find?_cons]
        cases hb : sameB b x
        · rfl
        · exact absurd hb hs
      rw [hf, if_neg hs]
theorem wantL_succ {l : List It} {x : It} {k : Nat} (h : k < l.length) : wantL (l.take (k + 1)) x none = (if sameB l[k] x then some l[k] else wantL (l.take k) x none) := by
  rw [List.take_succ_eq_append_getElem h]
  unfold wantL
  rw [List.foldl_append]; rfl
theorem zc5 : (#[.int .i64 0, .int .i64 0, .int .u64 0, .int .u64 0, .int .i64 0] : Array Value) = #[.int .i64 zit.s.toInt, .int .i64 zit.k.toInt, .int .u64 (zit.t.toNat : Int), .int .u64 (zit.v.toNat : Int), .int .i64 zit.x.toInt] := by kernel_rfl
theorem cutL_len (q : Nat) (l : List It) : (cutL q l).length = partsK q l.length := by simp [cutL, cutK]
theorem cutL_row {q : Nat} {l z : List It} (h : z ∈ cutL q l) : z.length ≤ q := by
  unfold cutL cutK at h
  obtain ⟨j, _, rfl⟩ := List.mem_map.1 h
  rw [List.length_take]
  exact Nat.min_le_left _ _
set_option maxRecDepth 100000 in
set_option maxHeartbeats 16000000 in
theorem law_any (A : Option Addr) (an ac : Nat) (l : List It) (most : Int) (x : It) (w : World) (h0 : IsI w A an ac l) (b1 : -9223372036854775808 ≤ most ∧ most ≤ 9223372036854775807) :
    Calls Try.prog 7 #[.slice A an ac, .int .i64 most, .agg #[.int .i64 x.s.toInt, .int .i64 x.k.toInt, .int .u64 (x.t.toNat : Int), .int .u64 (x.v.toNat : Int), .int .i64 x.x.toInt]] w fun e w' => e = .returned (.bool true) ∧ Up w w' := by
  obtain ⟨ha, hac, -⟩ := h0
  obtain ⟨w2, hw2⟩ : ∃ w2, w2 = w.alloc (.cells #[.int .i64 x.s.toInt, .int .i64 x.k.toInt, .int .u64 (x.t.toNat : Int), .int .u64 (x.v.toNat : Int), .int .i64 x.x.toInt] 46) := ⟨_, rfl⟩
  have hup2 : Up w w2 := by rw [hw2]; exact (Up.refl w).alloc _
  have hx2 : w2.heap[w.heap.size]? = some (.cells #[.int .i64 x.s.toInt, .int .i64 x.k.toInt, .int .u64 (x.t.toNat : Int), .int .u64 (x.v.toNat : Int), .int .i64 x.x.toInt] 46 (0, 0)) := by rw [hw2]; exact heap_alloc_new w _
  have ha2 := ha.up hup2
  have HW := Lib.hid hw2
  clear hw2 ha
  by_cases c0 : 300 < an
  · have c0i : (300 : Int) < (an : Int) := by omega
    go_enter Try.func7, Try.ntmps7
    go_wp2_with fail
    rw [← HW.out]
    refine (awake11_any _).mono ?_
    rintro e w4 ⟨rfl, hu4⟩
    go_wp2_with fail
    go_ret
    exact ⟨rfl, hup2.trans hu4⟩
  have c0i : ¬ (300 : Int) < (an : Int) := by omega
  go_enter Try.func7, Try.ntmps7
  go_wp2_with fail
  rw [← HW.out]
  clear HW
  generalize w.heap.size = g1 at hx2 ⊢
  refine (cut_any A an ac most l w2 ha2 hac (by omega)).mono ?_
  rintro e w3 ⟨R1, m1, r1, rs1, rfl, hv1, hok1, hl1, hu3⟩
  have hx3 := blk_up hu3 hx2
  have ha3 := ha2.up hu3
  go_wp2_with fail
  refine (rcut_any A an ac most l w3 ha3 hac (by omega) b1.1 b1.2).mono ?_
  rintro e w4 ⟨R2, m2, r2, rs2, rfl, hv2, hok2, hl2, hu4⟩
  have hx4 := blk_up hu4 hx3
  have ha4 := ha3.up hu4
  have hup4 := (hup2.trans hu3).trans hu4
  have hv1 := hv1.up hu4
  have hok1 := hok1.up hu4
  have hm1 : m1 = rs1.length := by have h := hv1.1; simp only [rwv, List.length_map, Nat.mul_one] at h; exact h.symm
  have hm2 : m2 = rs2.length := by have h := hv2.1; simp only [rwv, List.length_map, Nat.mul_one] at h; exact h.symm
  have hrl : rwl rs1 = rwl rs2 := hl1.trans hl2.symm
  have hrn : rs1.length = rs2.length := by have h := congrArg List.length hrl; simpa [rwl] using h
  have hmm : m2 = m1 := by omega
  subst hmm
  have HM1 := Lib.hid hm1
  have HM2 := Lib.hid hm2
  have HRL := Lib.hid hrl
  have hb300 : m2 ≤ 300 := by
    have h1 : rs1.length = (cutL (mostQ most) l).length := by rw [← hl1]; simp [rwl]
    rw [cutL_len] at h1
    have h2 := partsK_n (q := mostQ most) (n := l.length) (mostQ_bd most).1
    have h3 := ha2.ilen
    omega
  have hrow : ∀ r ∈ rs1, r.l.length ≤ 100 := fun r hr => by
    have h1 : r.l ∈ cutL (mostQ most) l := by rw [← hl1]; exact List.mem_map.2 ⟨r, hr, rfl⟩
    exact Nat.le_trans (cutL_row h1) (mostQ_bd most).2
  have HROW := Lib.hid hrow
  have hne : ((m2 : Int) != (m2 : Int)) = false := by simp
  clear hl1 hl2 hu3 hu4 hx2 hx3 ha2 ha3 hup2 hm1 hm2 hrl hrn hrow
  go_wp2_with fail
  go_loopw [9] (fun i wr => ∃ k : Nat, i = .int .i64 (k : Int) ∧ k ≤ m2 ∧ Up w4 wr) (fun i _ => m2 - (intOf i).toNat)
  case atStart => exact ⟨0, rfl, by omega, Up.refl _⟩
  case round =>
    obtain ⟨k, rfl, hk, hu⟩ := hrel
    by_cases hkm : k < m2
    · have k1 : k < rs1.length := by rw [← HM1.out]; exact hkm
      have k2 : k < rs2.length := by rw [← HM2.out]; exact hkm
      obtain ⟨bA, oA, rfl, hbA, hcA⟩ := hv1.2 (by omega)
      obtain ⟨bB, oB, rfl, hbB, hcB⟩ := hv2.2 (by omega)
      have e1 := hcA k rs1[k].v (by simp [rwv, k1])
      have e2 := hcB k rs2[k].v (by simp [rwv, k2])
      have o1 := hok1 rs1[k] (List.getElem_mem _)
      have o2 := hok2 rs2[k] (List.getElem_mem _)
      have hl12 : rs1[k].l = rs2[k].l := by
        have h := congrArg (fun q => q[k]?) HRL.out
        simp only [rwl, List.getElem?_map, List.getElem?_eq_getElem k1, List.getElem?_eq_getElem k2, Option.map_some] at h
        injection h
      rw [← hl12] at o2
      have hq := HROW.out rs1[k] (List.getElem_mem _)
      generalize rs1[k] = p1 at *
      generalize rs2[k] = p2 at *
      obtain ⟨A1, n1, c1, q1⟩ := p1
      obtain ⟨A2, n2, c2, q2⟩ := p2
      simp only [Rw.v] at e1 e2 o1 o2
      (try dsimp only at hq)
      have hb1 : n1 ≤ 1099511627776 := by have := o1.1.ilen; omega
      have hb2 : n2 ≤ 1099511627776 := by have := o2.1.ilen; omega
      have heq := fun W (h : Up wr W) => requal_any A1 n1 c1 q1 A2 n2 c2 q1 W (o1.1.up (hu.trans h)) (o2.1.up (hu.trans h)) hb1 hb2
      rw [show decide (q1 = q1) = true by simp] at heq
      have HEQ := Lib.hid heq
      have hS := fun W (h : Up wr W) => And.intro h (And.intro (((hu.trans h).cell (p := ⟨bA, oA + k, none⟩) hbA).trans e1) (((hu.trans h).cell (p := ⟨bB, oB + k, none⟩) hbB).trans e2))
      clear heq e1 e2 o1 o2 hl12 k1 k2 hq
      go_wp2_with fail
      apply Rg.region_up _ (by kernel_rfl) (by kernel_rfl) hS
      · intro QN hQN
        iterate 8 (apply Rg.RK.ok; (· intro vs w1 hS; go_simp; with_reducible rfl); (· rfl); simp only [Act.put, List.setIfInBounds_toArray, List.set_cons_zero, List.set_cons_succ, Nat.reduceAdd])
        apply Rg.RK.call (.bool true) []
        · rfl
        · intro vs w1 hK hS _ K hKK
          go_simp
          refine (HEQ.out w1 hS.1).mono ?_
          rintro e w2 ⟨rfl, hu2⟩
          exact hKK.out _ hu2
        simp only [Act.put, List.setIfInBounds_toArray, List.set_cons_zero, List.set_cons_succ, Nat.reduceAdd]
        iterate 1 (apply Rg.RK.ok; (· intro vs w1 hS; go_simp; with_reducible rfl); (· rfl); simp only [Act.put, List.setIfInBounds_toArray, List.set_cons_zero, List.set_cons_succ, Nat.reduceAdd])
        apply Rg.RK.fin []
        intro vs w1 hK hS _
        refine hQN.out _ _ ?_
        clear hQN
        have hu5 := hu.trans (keeps_up hK)
        clear hS hK
        go_wp2_with fail
        go_roundw
        case rel => exact ⟨k + 1, by go_num, by omega, hu5⟩
        case measure => simp [intOf] <;> omega
      · kernel_rfl
    · have hx5 := blk_up hu hx4
      have ha5 := ha4.up hu
      have hup5 := hup4.trans hu
      clear hv1 hv2 hok1 hok2 hx4 ha4 hup4 hu hne HM1 HM2 HRL
      clear HROW hb300
      go_wp2_with fail
      refine (one11_any A an ac l wr ha5 hac (by omega)).mono ?_
      intro e w6 ho
      obtain ⟨V, vm, vc, rfl, hu6, hR⟩ := rowsQ_any A an l wr w6 ha5 (by omega) ho
      clear ho
      go_wp2_with fail
      refine hR.mono ?_
      rintro e w7 ⟨R, rn, rc, rfl, hown, hu7⟩
      have hq7 := Rd.own hown
      have hqn : rn ≤ 300 := by
        have h1 := hq7.ilen
        have h2 := qL_len l
        have h3 := ha5.ilen
        omega
      have hrise := qL_rise l
      have hwant := wantL_find (qL l) x none hrise
      generalize qL l = q at *
      have hx7 := blk_up (hu6.trans hu7) hx5
      have hup7 := hup5.trans (hu6.trans hu7)
      have HQL := Lib.hid hq7.ilen
      have HWT := Lib.hid hwant
      clear hR hown hu6 hu7 hx5 ha5 hup5 hwant
      have e0 := blk_cell hx7 0
      have e1 := blk_cell hx7 1
      have e2 := blk_cell hx7 2
      have e3 := blk_cell hx7 3
      have e4 := blk_cell hx7 4
      simp only [List.getElem?_toArray, List.getElem?_cons_zero, List.getElem?_cons_succ] at e0 e1 e2 e3 e4
      go_wp2_with fail
      clear e0 e1 e2 e3 e4
      refine (find_any R rn rc q x w7 hq7 (by omega) hrise).mono ?_
      rintro e w8 hF
      obtain ⟨y, ok, rfl, hfd, hu8⟩ : ∃ (y : It) (ok : Bool), e = .returned (.tuple #[.agg #[.int .i64 y.s.toInt, .int .i64 y.k.toInt, .int .u64 (y.t.toNat : Int), .int .u64 (y.v.toNat : Int), .int .i64 y.x.toInt], .bool ok]) ∧ Hid (findL q x = (if ok then some y else none) ∧ (ok = false → y = zit)) ∧ Up w7 w8 := by
        rcases hF with ⟨y, hy, rfl, hu8⟩ | ⟨hy, rfl, hu8⟩
        · exact ⟨y, true, rfl, ⟨hy, fun h => by cases h⟩, hu8⟩
        · exact ⟨zit, false, by rw [zc5], ⟨hy, fun _ => rfl⟩, hu8⟩
      clear hF
      obtain ⟨w9, hw9⟩ : ∃ w9, w9 = (w8.alloc (.cells #[.int .i64 y.s.toInt, .int .i64 y.k.toInt, .int .u64 (y.t.toNat : Int), .int .u64 (y.v.toNat : Int), .int .i64 y.x.toInt] 46)).alloc (.cells #[.int .i64 0, .int .i64 0, .int .u64 0, .int .u64 0, .int .i64 0] 46) := ⟨_, rfl⟩
      have hu9 : Up w8 w9 := by rw [hw9]; exact ((Up.refl w8).alloc _).alloc _
      have hy9 : w9.heap[w8.heap.size]? = some (.cells #[.int .i64 y.s.toInt, .int .i64 y.k.toInt, .int .u64 (y.t.toNat : Int), .int .u64 (y.v.toNat : Int), .int .i64 y.x.toInt] 46 (0, 0)) := by
        rw [hw9, Below.heap_alloc _ _ _ (by simp)]; exact heap_alloc_new w8 _
      have hz9 : w9.heap[w8.heap.size + 1]? = some (.cells #[.int .i64 0, .int .i64 0, .int .u64 0, .int .u64 0, .int .i64 0] 46 (0, 0)) := by
        rw [hw9]
        have h := heap_alloc_new (w8.alloc (.cells #[.int .i64 y.s.toInt, .int .i64 y.k.toInt, .int .u64 (y.t.toNat : Int), .int .u64 (y.v.toNat : Int), .int .i64 y.x.toInt] 46)) (.cells #[.int .i64 0, .int .i64 0, .int .u64 0, .int .u64 0, .int .i64 0] 46)
        rwa [World.size_alloc] at h
      rw [zc5] at hz9
      have HW9 := Lib.hid hw9
      clear hw9
      have hu79 := hu8.trans hu9
      have hup9 := hup7.trans hu79
      have hx9 := blk_up hu79 hx7
      have hq9 := hq7.below hu79
      have hgz : w7.heap.size ≤ w8.heap.size + 1 := Nat.le_trans hu8.size (Nat.le_succ _)
      have hgzw : w.heap.size ≤ w8.heap.size + 1 := Nat.le_trans (hup7.trans hu8).size (Nat.le_succ _)
      have hxl : g1 < w8.heap.size := (Array.getElem?_eq_some_iff.1 (blk_up hu8 hx7)).1
      have hs79 := hu79.size
      clear hu8 hx7 hup7 hu79 hu9
      go_wp2_with fail
      rw [← HW9.out]
      clear HW9
      obtain ⟨gz, hgz1⟩ : ∃ q, q = w8.heap.size + 1 := ⟨_, rfl⟩
      obtain ⟨gy, hgy1⟩ : ∃ q, q = w8.heap.size := ⟨_, rfl⟩
      rw [← hgz1] at hz9 hgz hgzw ⊢
      rw [← hgy1] at hy9 hxl ⊢
      have hyz : gy ≠ gz := by omega
      have hxz : g1 ≠ gz := by omega
      clear hgz1 hgy1
      go_loopw [14, 15] (fun bv i wr => ∃ (k : Nat) (z : It) (b : Bool), bv = .bool b ∧ i = .int .i64 (k : Int) ∧ k ≤ rn ∧ wr.heap[gz]? = some (.cells #[.int .i64 z.s.toInt, .int .i64 z.k.toInt, .int .u64 (z.t.toNat : Int), .int .u64 (z.v.toNat : Int), .int .i64 z.x.toInt] 46 (0, 0)) ∧ Hid (wantL (q.take k) x none = (if b then some z else none) ∧ (b = false → z = zit)) ∧ Rg.Keeps (fun g => g = gz) w9 wr) (fun _ i _ => rn - (intOf i).toNat)
      case atStart => exact ⟨0, zit, false, rfl, rfl, by omega, hz9, ⟨rfl, fun _ => rfl⟩, Rg.Keeps.refl _ _⟩
      case round =>
        obtain ⟨k, z, b, rfl, rfl, hk, hz, hwl, hKp⟩ := hrel
        have hxr := (hKp.block g1 (Array.getElem?_eq_some_iff.1 hx9).1 hxz).trans hx9
        have hyr := (hKp.block gy (Array.getElem?_eq_some_iff.1 hy9).1 hyz).trans hy9
        have hupr := keepsUpG hup9 hgzw hKp
        by_cases hkr : k < rn
        · have hqr : Rd wr wr.heap.size 5 R rn (itcs q) := (hq9.keep (fun p hp => World.cell?_of_block (hKp.block p.block (by omega) (by show ¬ p.block = gz; omega)))).mono (Nat.le_trans hs79 hKp.size)
          obtain ⟨bq, oq, u, rfl, hbq, hu, c0, c1, c2, c3, c4⟩ := hqr.item_at hkr
          have hkq : k < q.length := by have := HQL.out; omega
          have huq : q[k] = u := by
            rw [List.getElem?_eq_getElem hkq] at hu
            injection hu
          have hst : wantL (q.take (k + 1)) x none = (if sameB u x then some u else wantL (q.take k) x none) := by rw [wantL_succ hkq, huq]
          have HST := Lib.hid hst
          obtain ⟨sm, hsm⟩ : ∃ q, q = sameB u x := ⟨_, rfl⟩
          have hcs := fun W => rsame_any u x W
          rw [← hsm] at hcs HST
          have hS : ∀ W, Up wr W → Up wr W ∧ (W.cell? ⟨bq, oq + k * 5, none⟩ = some (.int .i64 u.s.toInt) ∧ W.cell? ⟨bq, oq + k * 5 + 1, none⟩ = some (.int .i64 u.k.toInt) ∧ W.cell? ⟨bq, oq + k * 5 + 2, none⟩ = some (.int .u64 (u.t.toNat : Int)) ∧ W.cell? ⟨bq, oq + k * 5 + 3, none⟩ = some (.int .u64 (u.v.toNat : Int)) ∧ W.cell? ⟨bq, oq + k * 5 + 4, none⟩ = some (.int .i64 u.x.toInt)) ∧
              (W.cell? ⟨g1, 0, none⟩ = some (.int .i64 x.s.toInt) ∧ W.cell? ⟨g1, 1, none⟩ = some (.int .i64 x.k.toInt) ∧ W.cell? ⟨g1, 2, none⟩ = some (.int .u64 (x.t.toNat : Int)) ∧ W.cell? ⟨g1, 3, none⟩ = some (.int .u64 (x.v.toNat : Int)) ∧ W.cell? ⟨g1, 4, none⟩ = some (.int .i64 x.x.toInt)) := fun W h => by
            have h5 := blk_up h hxr
            exact ⟨h, ⟨(h.cell (p := ⟨bq, oq + k * 5, none⟩) hbq).trans c0, (h.cell (p := ⟨bq, oq + k * 5 + 1, none⟩) hbq).trans c1, (h.cell (p := ⟨bq, oq + k * 5 + 2, none⟩) hbq).trans c2, (h.cell (p := ⟨bq, oq + k * 5 + 3, none⟩) hbq).trans c3, (h.cell (p := ⟨bq, oq + k * 5 + 4, none⟩) hbq).trans c4⟩, blk_cell h5 0, blk_cell h5 1, blk_cell h5 2, blk_cell h5 3, blk_cell h5 4⟩
          clear c0 c1 c2 c3 c4 hu huq hst hsm
          go_wp2_with fail
          apply Rg.region_up _ (by kernel_rfl) (by kernel_rfl) hS
          · intro QN hQN
            iterate 5 (apply Rg.RK.ok; (· intro vs w1 hS; go_simp; with_reducible rfl); (· rfl); simp only [Act.put, List.setIfInBounds_toArray, List.set_cons_zero, List.set_cons_succ, Nat.reduceAdd])
            apply Rg.RK.call (.bool sm) []
            · rfl
            · intro vs w1 hK hS _ K hKK
              go_simp
              refine (hcs w1).mono ?_
              rintro e w2 ⟨rfl, hu2⟩
              exact hKK.out _ hu2
            simp only [Act.put, List.setIfInBounds_toArray, List.set_cons_zero, List.set_cons_succ, Nat.reduceAdd]
            apply Rg.RK.fin []
            intro vs w1 hK hS _
            refine hQN.out _ _ ?_
            clear hQN
            have hu4 := keeps_up hK
            have hz4 := blk_up hu4 hz
            obtain ⟨-, ⟨c0, c1, c2, c3, c4⟩, -⟩ := hS
            have hK4 : Rg.Keeps (fun g => g = gz) w9 w1 := keepsT hKp (Rg.Keeps.of_up hu4)
            clear hK hcs
            cases sm
            · go_wp2_with fail
              go_roundw
              case rel => exact ⟨k + 1, z, b, rfl, by go_num, by omega, hz4, ⟨by rw [HST.out]; exact hwl.out.1, hwl.out.2⟩, hK4⟩
              case measure => simp [intOf] <;> omega
            · go_wp2_with (first
                | (with_reducible show wpList _ _ _ (⟨none, .store 46 _ _, _, _, _, none⟩ :: _) _ _
                   go_loud (refine wpList_store_it5 rfl _ _ rfl (g := gz) (z0 := .int .i64 u.s.toInt) (z1 := .int .i64 u.k.toInt) (z2 := .int .u64 (u.t.toNat : Int)) (z3 := .int .u64 (u.v.toNat : Int)) (z4 := .int .i64 u.x.toInt) (by kernel_rfl) (by kernel_rfl) hz4 (by simp [Value.oneCell']) ?_)
                   intro w5 hgd hbut
                   have hK5 : Rg.Keeps (fun g => g = gz) w9 w5 := keepsT hK4 hbut
                   clear hbut hz4))
              go_roundw
              case rel => exact ⟨k + 1, u, true, rfl, by go_num, by omega, hgd, ⟨by rw [HST.out]; rfl, fun h => by cases h⟩, hK5⟩
              case measure => simp [intOf] <;> omega
          · kernel_rfl
        · have hke : k = q.length := by have := HQL.out; omega
          obtain ⟨w1, w2⟩ := hwl.out
          rw [hke, List.take_length, HWT.out, hfd.out.1] at w1
          have hbo : b = ok ∧ z = y := by
            have h2 := hfd.out.2
            cases b <;> cases ok <;> simp at w1 h2 w2 <;> simp_all
          obtain ⟨rfl, rfl⟩ := hbo
          have y0 := blk_cell hyr 0
          have y1 := blk_cell hyr 1
          have y2 := blk_cell hyr 2
          have y3 := blk_cell hyr 3
          have y4 := blk_cell hyr 4
          have z0 := blk_cell hz 0
          have z1 := blk_cell hz 1
          have z2 := blk_cell hz 2
          have z3 := blk_cell hz 3
          have z4 := blk_cell hz 4
          simp only [List.getElem?_toArray, List.getElem?_cons_zero, List.getElem?_cons_succ] at y0 y1 y2 y3 y4 z0 z1 z2 z3 z4
          have hbb : (b == b) = true := by simp
          clear hy9 hx9 hz9 hyr hz hwl hfd w1 w2 hke hKp
          go_wp2_with fail
          refine (awake11_any wr).mono ?_
          rintro e w10 ⟨rfl, hu10⟩
          go_wp2_with fail
          go_ret
          exact ⟨rfl, hupr.trans hu10⟩
end Go.Proofs.Ytijekbeofpaojaa.blockCuts

/-
  'clepsydra/clepsydralaw11.BlockCuts': for every input the law returns true; each argument reads behind the call as it read before. No condition.
-/
namespace Go.Proofs.Ytijekbeofpaojaa.blockCuts
open Go.ChangeShapes Go.WideShapes Go.ChangeAt Go.RowKit
open Go.ChangeMaps (open_string shut_string)
set_option linter.unusedVariables false

set_option maxRecDepth 100000 in
theorem lifted (os : Os) (started : os.Started) (H : Type) (enc : TypeId × Value → H) :
    ReturnsInHanded {} Try.checked os 7 .any (Rows.blockCutsSpec.pre6 enc Try.prog Try.f7 Rows.blockCutsRow.domain false) (Rows.blockCutsSpec.post enc Try.prog Try.f7 false true false false) := by
  refine returnsInHanded_of_change (C := Try.checked) prog_own started (by kernel_rfl) Try.func7
    (ChangeSpec.witness6 (enc := enc) (C := Try.checked) false ⟨#[], #[.slice none 0 0, .int .i64 0, .agg #[.int .i64 0, .int .i64 0, .int .u64 0, .int .u64 0, .int .i64 0]], []⟩ 8 (by kernel_rfl) (by kernel_rfl) (by kernel_rfl) (by kernel_rfl)) ?_
  intro W base args ds gs before hval0 hW hcnd _
  have hval : ∀ (j : Nat) t v, Try.f7.params[j]? = some t → args[j]? = some v → Value.okWide Try.prog W .any base t v := hval0
  have hW' := hW
  obtain ⟨p, q, hA0, hV, rfl, hfz, hnd⟩ := hW
  have hA : DataW.TrodAll enc Try.prog W 0 (fun _ => true) true Try.f7.params.toList args.toList ds p := hA0
  rw [Try.params7] at hA hval
  obtain ⟨v0, vs0, d0, ds0, p0, q0, hargs, rfl, rfl, h0, r0⟩ := trodAll_cons hA
  obtain ⟨v1, vs1, d1, ds1, p1, q1, rfl, rfl, rfl, h1, r1⟩ := trodAll_cons r0
  obtain ⟨v2, vs2, d2, ds2, p2, q2, rfl, rfl, rfl, h2, r2⟩ := trodAll_cons r1
  obtain ⟨rfl, rfl, rfl⟩ := trodAll_nil r2
  obtain rfl : args = #[v0, v1, v2] := by cases args; simp_all
  obtain ⟨rfl, rfl⟩ := trodVars_none hV
  obtain ⟨a0, len0, cap0, rfl⟩ := okWide_slice Try.underlying23 (hval 0 23 v0 rfl rfl)
  have k0 := h0
  have lt0 : ∀ x ∈ p0, x.block < W.heap.size := by obtain ⟨m, hm⟩ := k0; exact DataW.trod_lt m _ _ _ hm
  obtain ⟨l0, w0⟩ := is_i h0
  obtain ⟨a1, rfl, rfl, rfl, w1⟩ := open_int Try.underlying3 (hval 1 3 v1 rfl rfl) h1
  have b1 := bd_i64 w1
  have k2 := h2
  have lt2 : ∀ x ∈ p2, x.block < W.heap.size := by obtain ⟨m, hm⟩ := k2; exact DataW.trod_lt m _ _ _ hm
  obtain ⟨a2, rfl⟩ := is_item (hval 2 46 v2 rfl rfl) h2
  clear hA0 hval0
  refine (law_any a0 len0 cap0 l0 a1 a2 W w0 b1).mono fun e W' ⟨he, bel⟩ => ?_
  subst he
  exact ⟨_, rfl, _, _, _, [], _, [], hW', trodAll_mk1 (shut_bool Try.underlying4 _), (trodAll_cons_mk (Below.trod laidOut (by kernel_rfl) (of_decide_eq_true (by kernel_rfl)) k0 bel lt0) (trodAll_cons_mk (shut_int Try.underlying3 w1) (trodAll_cons_mk (Below.trod laidOut (by kernel_rfl) (of_decide_eq_true (by kernel_rfl)) k2 bel lt2) trodAll_mk0))), rfl, bel.frame _, fun h => by cases h⟩

theorem proved : Rows.BlockCutsSaid :=
  OpenClaim.holds_of_wide 7 Try.f7 rfl rfl rfl rfl rfl rfl rfl ⟨rfl, rfl, rfl, rfl, rfl⟩ rfl rfl rfl rfl rfl (by kernel_rfl) Try.func7 (by kernel_rfl)
    (of_decide_eq_true (by kernel_rfl)) (by unfold Func.isWrapper; first | (rw [if_pos (by decide +kernel)]; kernel_rfl) | (rw [if_neg (by decide +kernel)]; exact ⟨rfl, rfl⟩))
    (fun os started H enc _ => lifted os started H enc)
#print axioms proved
end Go.Proofs.Ytijekbeofpaojaa.blockCuts
