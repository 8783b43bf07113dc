/-
  'clepsydra/clepsydralaw12.TableTells': for every input the law returns true; each argument reads behind the call as it read before. No condition.
-/
import Derived.IntWalk
import Derived.Test.YtfmjgkfblejknaaGreatZ7
/-
  The law TableTells: the walk.
-/
namespace Go.Proofs.YtfmjgkfblejknaaGreat.tableTells
open Go.RowKit
set_option linter.unusedVariables false
set_option linter.unusedSimpArgs false

set_option maxRecDepth 100000 in
set_option maxHeartbeats 32000000 in
theorem law_any (A : Option Addr) (n c : Nat) (l : List It) (x fr tq : It) (w : World) (h0 : IsI w A n c l) :
    Calls Tryz.prog 5 #[.slice A n c, .agg #[.int .i64 x.s.toInt, .int .i64 x.k.toInt, .int .u64 (x.t.toNat : Int), .int .u64 (x.v.toNat : Int), .int .i64 x.x.toInt], .agg #[.int .i64 fr.s.toInt, .int .i64 fr.k.toInt, .int .u64 (fr.t.toNat : Int), .int .u64 (fr.v.toNat : Int), .int .i64 fr.x.toInt], .agg #[.int .i64 tq.s.toInt, .int .i64 tq.k.toInt, .int .u64 (tq.t.toNat : Int), .int .u64 (tq.v.toNat : Int), .int .i64 tq.x.toInt]] w fun e w' => e = .returned (.bool true) ∧ Up w w' := by
  obtain ⟨ha, hac, hcc⟩ := h0
  obtain ⟨w0, hw0⟩ : ∃ w0, w0 = ((w.alloc (.cells #[.int .i64 x.s.toInt, .int .i64 x.k.toInt, .int .u64 (x.t.toNat : Int), .int .u64 (x.v.toNat : Int), .int .i64 x.x.toInt] 37)).alloc (.cells #[.int .i64 fr.s.toInt, .int .i64 fr.k.toInt, .int .u64 (fr.t.toNat : Int), .int .u64 (fr.v.toNat : Int), .int .i64 fr.x.toInt] 37)).alloc (.cells #[.int .i64 tq.s.toInt, .int .i64 tq.k.toInt, .int .u64 (tq.t.toNat : Int), .int .u64 (tq.v.toNat : Int), .int .i64 tq.x.toInt] 37) := ⟨_, rfl⟩
  have hup0 : Up w w0 := by rw [hw0]; exact (((Up.refl w).alloc _).alloc _).alloc _
  have hx0 : w0.heap[w.heap.size]? = some (.cells #[.int .i64 x.s.toInt, .int .i64 x.k.toInt, .int .u64 (x.t.toNat : Int), .int .u64 (x.v.toNat : Int), .int .i64 x.x.toInt] 37 (0, 0)) := by
    rw [hw0, Below.heap_alloc _ _ _ (by simp; omega), Below.heap_alloc _ _ _ (by simp)]; exact heap_alloc_new w _
  have hf0 : w0.heap[w.heap.size + 1]? = some (.cells #[.int .i64 fr.s.toInt, .int .i64 fr.k.toInt, .int .u64 (fr.t.toNat : Int), .int .u64 (fr.v.toNat : Int), .int .i64 fr.x.toInt] 37 (0, 0)) := by
    rw [hw0, Below.heap_alloc _ _ _ (by simp)]
    have h := heap_alloc_new (w.alloc (.cells #[.int .i64 x.s.toInt, .int .i64 x.k.toInt, .int .u64 (x.t.toNat : Int), .int .u64 (x.v.toNat : Int), .int .i64 x.x.toInt] 37)) (.cells #[.int .i64 fr.s.toInt, .int .i64 fr.k.toInt, .int .u64 (fr.t.toNat : Int), .int .u64 (fr.v.toNat : Int), .int .i64 fr.x.toInt] 37)
    rwa [World.size_alloc] at h
  have ht0 : w0.heap[w.heap.size + 1 + 1]? = some (.cells #[.int .i64 tq.s.toInt, .int .i64 tq.k.toInt, .int .u64 (tq.t.toNat : Int), .int .u64 (tq.v.toNat : Int), .int .i64 tq.x.toInt] 37 (0, 0)) := by
    rw [hw0]
    have h := heap_alloc_new ((w.alloc (.cells #[.int .i64 x.s.toInt, .int .i64 x.k.toInt, .int .u64 (x.t.toNat : Int), .int .u64 (x.v.toNat : Int), .int .i64 x.x.toInt] 37)).alloc (.cells #[.int .i64 fr.s.toInt, .int .i64 fr.k.toInt, .int .u64 (fr.t.toNat : Int), .int .u64 (fr.v.toNat : Int), .int .i64 fr.x.toInt] 37)) (.cells #[.int .i64 tq.s.toInt, .int .i64 tq.k.toInt, .int .u64 (tq.t.toNat : Int), .int .u64 (tq.v.toNat : Int), .int .i64 tq.x.toInt] 37)
    rwa [World.size_alloc, World.size_alloc] at h
  have ha0 := ha.up hup0
  have hll := ha.ilen
  have HLL := Lib.hid hll
  have HW0 := Lib.hid hw0
  clear hw0 hll
  by_cases c2 : 150 < n
  · have c2i : (150 : Int) < (n : Int) := by omega
    go_enter Tryz.func5, Tryz.ntmps5
    go_wp2_with fail
    rw [← HW0.out]
    refine (awake12_any w0).mono ?_
    rintro e w2 ⟨rfl, hu2⟩
    go_wp2_with fail
    go_ret
    exact ⟨rfl, hup0.trans hu2⟩
  have c2i : ¬ (150 : Int) < (n : Int) := by omega
  have HRI := Lib.hid (rising12_any A n c l w0 ha0 hac (by omega))
  go_enter Tryz.func5, Tryz.ntmps5
  go_wp2_with fail
  rw [← HW0.out]
  clear c2i HW0
  have hgxw : w.heap.size ≤ w.heap.size := Nat.le_refl _
  generalize hgt : w.heap.size + 1 + 1 = gt at ht0 ⊢
  generalize hgf : w.heap.size + 1 = gf at hf0 ⊢
  generalize hgx : w.heap.size = gx at hx0 ⊢
  refine HRI.out.mono ?_
  rintro e w1 ⟨R, rn, rc, rfl, hR, hu1⟩
  have hqm : (qL l).length ≤ 150 := by have := qL_len l; have := HLL.out; omega
  have hqe : makeE (qL l) = 0 := makeE_q (by have := HLL.out; omega)
  generalize qL l = q at *
  have hrn := OwnI.ilen hR
  have hrb : rn ≤ 150 := by omega
  have hrc := own_cap hR
  have hml : makeL q = tabB q := by unfold makeL; rw [if_pos hqe]
  have HQL := Lib.hid hrn
  have HE := Lib.hid hqe
  have HML := Lib.hid hml
  have ha1 := ha0.up hu1
  have hup1 := hup0.trans hu1
  have hx1 := blk_up hu1 hx0
  have hf1 := blk_up hu1 hf0
  have ht1 := blk_up hu1 ht0
  have HM1 := Lib.hid (make_any A n c l w1 ha1 hac (by omega))
  clear HRI hx0 hf0 ht0 ha0 ha hu1 hup0 hrn hqe hml hqm
  go_wp2_with fail
  refine HM1.out.mono ?_
  rintro e w2 ⟨B1, bn1, bc1, rfl, -, hu2⟩
  have hR2 := hR.up hu2
  have HM2 := Lib.hid (make_any R rn rc q w2 (Rd.own hR2) hrc (by omega))
  clear HM1
  go_wp2_with fail
  refine HM2.out.mono ?_
  rintro e w3 ⟨B, bn, bc, rfl, hoB, hu3⟩
  rw [HE.out]
  rw [show ((0 : Nat) : Int) = 0 from rfl]
  rw [HML.out] at hoB
  have hrB := Rd.own hoB
  have hbc := own_cap hoB
  have hR3 := hR2.up hu3
  have ha3 := (ha1.up hu2).up hu3
  have hx3 := blk_up hu3 (blk_up hu2 hx1)
  have hf3 := blk_up hu3 (blk_up hu2 hf1)
  have ht3 := blk_up hu3 (blk_up hu2 ht1)
  have hup3 := (hup1.trans hu2).trans hu3
  have HMAY := Lib.hid (fun W (h : Up w3 W) => rtmay_any A n c l W (ha3.up h) (by omega))
  have HTBL := Lib.hid (fun W (h : Up w3 W) => rtable_any R rn rc q W (Rd.own (hR3.up h)) hrc (by omega))
  obtain ⟨E, hE⟩ : ∃ E, E = makeE l := ⟨_, rfl⟩
  rw [← hE] at HMAY ⊢
  have d0 : ((E : Int) != (E : Int)) = false := by simp
  have d1 : ((tx (tabB q)).toList != (tx (tabB q)).toList) = false := by simp
  clear HM2 hoB hR hR2 ha1 hx1 hf1 ht1 hup1 hu2 hu3 hE
  go_wp2_with fail
  apply Rg.region_up (fun W => Up w3 W) (by kernel_rfl) (by kernel_rfl) (fun _ h => h)
  · intro QN hQN
    iterate 2 (apply Rg.RK.ok; (· intro vs w1 hS; go_simp; with_reducible rfl); (· rfl); simp only [Act.put, List.setIfInBounds_toArray, List.set_cons_zero, List.set_cons_succ, Nat.reduceAdd])
    apply Rg.RK.call (.int .i64 (E : Int)) []
    · rfl
    · intro vs w1 hK hS _ K hKK
      go_simp
      refine (HMAY.out w1 hS).mono ?_
      rintro e w2 ⟨rfl, hu2⟩
      exact hKK.out _ hu2
    simp only [Act.put, List.setIfInBounds_toArray, List.set_cons_zero, List.set_cons_succ, Nat.reduceAdd]
    iterate 2 (apply Rg.RK.ok; (· intro vs w1 hS; go_simp; with_reducible rfl); (· rfl); simp only [Act.put, List.setIfInBounds_toArray, List.set_cons_zero, List.set_cons_succ, Nat.reduceAdd])
    iterate 2 (apply Rg.RK.gok (t := 46); (· intro vs w1 hS; go_simp; with_reducible rfl); (· rfl); (· intro vs; rfl); simp only [Act.put, List.setIfInBounds_toArray, List.set_cons_zero, List.set_cons_succ, Nat.reduceAdd])
    iterate 2 (apply Rg.RK.ok; (· intro vs w1 hS; go_simp; with_reducible rfl); (· rfl); simp only [Act.put, List.setIfInBounds_toArray, List.set_cons_zero, List.set_cons_succ, Nat.reduceAdd])
    iterate 1 (apply Rg.RK.gok (t := 50); (· intro vs w1 hS; go_simp; with_reducible rfl); (· rfl); (· intro vs; rfl); simp only [Act.put, List.setIfInBounds_toArray, List.set_cons_zero, List.set_cons_succ, Nat.reduceAdd])
    apply Rg.RK.gok (t := 50) (v := .string (tx (tabB q)))
    · intro vs w1 hS
      exact exec_str rfl rfl (hrB.up hS)
    · rfl
    · intro vs; rfl
    simp only [Act.put, List.setIfInBounds_toArray, List.set_cons_zero, List.set_cons_succ, Nat.reduceAdd]
    iterate 1 (apply Rg.RK.gok (t := 50); (· intro vs w1 hS; go_simp; with_reducible rfl); (· rfl); (· intro vs; rfl); simp only [Act.put, List.setIfInBounds_toArray, List.set_cons_zero, List.set_cons_succ, Nat.reduceAdd])
    apply Rg.RK.gcall (t := 50) (.string (tx (tabB q))) []
    · rfl
    · intro vs; rfl
    · intro vs w1 hK hS _ K hKK
      go_simp
      refine (HTBL.out _ hS).mono ?_
      rintro e w2 ⟨rfl, hu2⟩
      exact hKK.out _ hu2
    simp only [Act.put, List.setIfInBounds_toArray, List.set_cons_zero, List.set_cons_succ, Nat.reduceAdd]
    iterate 1 (apply Rg.RK.gok (t := 50); (· intro vs w1 hS; go_simp; with_reducible rfl); (· rfl); (· intro vs; rfl); simp only [Act.put, List.setIfInBounds_toArray, List.set_cons_zero, List.set_cons_succ, Nat.reduceAdd])
    iterate 1 (apply Rg.RK.ok; (· intro vs w1 hS; go_simp; with_reducible rfl); (· rfl); simp only [Act.put, List.setIfInBounds_toArray, List.set_cons_zero, List.set_cons_succ, Nat.reduceAdd])
    apply Rg.RK.fin []
    intro vs w1 hK hS _
    refine hQN.out _ _ ?_
    clear hQN
    have hR4 := hR3.up hS
    have hx4 := blk_up hS hx3
    have hf4 := blk_up hS hf3
    have ht4 := blk_up hS ht3
    have hup4 := hup3.trans hS
    have HRD := Lib.hid (tread_tab B bn bc q _ (hrB.up hS) HE.out hbc)
    clear hK hS hR3 hx3 hf3 ht3 hup3 HMAY HTBL hrB d0 d1
    go_wp2_with fail
    refine HRD.out.mono ?_
    rintro e w5 ⟨g, m, rc3, R3, rs, rfl, hd5, hX5, hu5⟩
    have hdn5 := hd5
    rw [← HQL.out] at hdn5
    have hR5 := hR4.up hu5
    have hx5 := blk_up hu5 hx4
    have hf5 := blk_up hu5 hf4
    have ht5 := blk_up hu5 ht4
    have hup5 := hup4.trans hu5
    have hgw5 : w.heap.size ≤ g := by have := hX5.base; have := hup4.size; omega
    have HLEN := Lib.hid (tlen_any g m rc3 rn 0 R3 none w5 hdn5)
    have HALL := Lib.hid (tall_x hd5 hX5)
    clear HRD hR4 hx4 hf4 ht4 hup4 hu5 hdn5
    go_wp2_with fail
    refine HLEN.out.mono ?_
    rintro e w6 ⟨rfl, rfl⟩
    clear HLEN
    go_wp2_with fail
    refine HALL.out.mono ?_
    rintro e w6 ⟨A6, c6, rfl, hI6, hu6⟩
    have hR6 := hR5.up hu6
    have hEQ := requal_any A6 q.length c6 q R rn rc q w6 (Rd.own hI6) (Rd.own hR6) (by have := HQL.out; omega) (by omega)
    rw [show decide (q = q) = true by simp] at hEQ
    have HEQ := Lib.hid hEQ
    clear hEQ
    clear HALL hI6
    go_wp2_with fail
    refine HEQ.out.mono ?_
    rintro e w7 ⟨rfl, hu7⟩
    have hu57 := hu6.trans hu7
    have hd7 := blk_up hu57 hd5
    have hX7 := hX5.up hu57
    have hR7 := hR5.up hu57
    have hx7 := blk_up hu57 hx5
    have hf7 := blk_up hu57 hf5
    have ht7 := blk_up hu57 ht5
    have hup7 := hup5.trans hu57
    clear HEQ hR5 hR6 hx5 hf5 ht5 hup5 hu6 hu7 hu57 hd5 hX5
    by_cases hN : rn = 0
    · subst hN
      have hdz : w7.heap[g]? = some (.cells (tcs R3 m rc3 0 0 none) 74 (0, 0)) := by have h := hd7; rw [← HQL.out] at h; exact h
      have HF := Lib.hid (tfirst_no g m rc3 0 R3 none w7 hdz)
      go_wp2_with fail
      refine HF.out.mono ?_
      rintro e w8 ⟨rfl, hu8⟩
      have hu78 : Up w7 (w8.alloc (.cells #[.int .i64 0, .int .i64 0, .int .u64 0, .int .u64 0, .int .i64 0] 37)) := hu8.alloc _
      have HLA := Lib.hid (tlast_no g m rc3 0 R3 none _ (blk_up hu78 hdz))
      clear HF hu8 hdz
      go_wp2_with fail
      refine HLA.out.mono ?_
      rintro e w9 ⟨rfl, hu9⟩
      have hu710 : Up w7 (w9.alloc (.cells #[.int .i64 0, .int .i64 0, .int .u64 0, .int .u64 0, .int .i64 0] 37)) := (hu78.trans hu9).alloc _
      clear HLA hu78 hu9
      go_wp2_with fail
      apply Rg.region_up (fun W => Up (w9.alloc (.cells #[.int .i64 0, .int .i64 0, .int .u64 0, .int .u64 0, .int .i64 0] 37)) W) (by kernel_rfl) (by kernel_rfl) (fun _ h => h)
      · intro QN hQN
        iterate 6 (apply Rg.RK.ok; (· intro vs w1 hS; go_simp; with_reducible rfl); (· rfl); simp only [Act.put, List.setIfInBounds_toArray, List.set_cons_zero, List.set_cons_succ, Nat.reduceAdd])
        iterate 3 (apply Rg.RK.gok (t := 97); (· intro vs w1 hS; go_simp; with_reducible rfl); (· rfl); (· intro vs; rfl); simp only [Act.put, List.setIfInBounds_toArray, List.set_cons_zero, List.set_cons_succ, Nat.reduceAdd])
        iterate 2 (apply Rg.RK.ok; (· intro vs w1 hS; go_simp; with_reducible rfl); (· rfl); simp only [Act.put, List.setIfInBounds_toArray, List.set_cons_zero, List.set_cons_succ, Nat.reduceAdd])
        iterate 2 (apply Rg.RK.gok (t := 102); (· intro vs w1 hS; go_simp; with_reducible rfl); (· rfl); (· intro vs; rfl); simp only [Act.put, List.setIfInBounds_toArray, List.set_cons_zero, List.set_cons_succ, Nat.reduceAdd])
        iterate 6 (apply Rg.RK.gno (t := 104) (y := false); (· rfl); (· intro vs; rfl); (· rfl); simp only [Act.put, List.setIfInBounds_toArray, List.set_cons_zero, List.set_cons_succ, Nat.reduceAdd])
        iterate 8 (apply Rg.RK.gun (t := 110); (· rfl); (· intro vs; rfl); simp only [Act.put, List.setIfInBounds_toArray, List.set_cons_zero, List.set_cons_succ, Nat.reduceAdd])
        iterate 1 (apply Rg.RK.gno (t := 104) (y := false); (· rfl); (· intro vs; rfl); (· rfl); simp only [Act.put, List.setIfInBounds_toArray, List.set_cons_zero, List.set_cons_succ, Nat.reduceAdd])
        iterate 1 (apply Rg.RK.gok (t := 102); (· intro vs w1 hS; go_simp; with_reducible rfl); (· rfl); (· intro vs; rfl); simp only [Act.put, List.setIfInBounds_toArray, List.set_cons_zero, List.set_cons_succ, Nat.reduceAdd])
        iterate 1 (apply Rg.RK.ok; (· intro vs w1 hS; go_simp; with_reducible rfl); (· rfl); simp only [Act.put, List.setIfInBounds_toArray, List.set_cons_zero, List.set_cons_succ, Nat.reduceAdd])
        apply Rg.RK.fin []
        intro vs w1 hK hS _
        refine hQN.out _ _ ?_
        clear hQN
        have hu7b := hu710.trans hS
        have hdb := blk_up hu7b hd7
        have hXb := hX7.up hu7b
        have hRb := hR7.up hu7b
        have hxb := blk_up hu7b hx7
        have hfb := blk_up hu7b hf7
        have htb := blk_up hu7b ht7
        have hupb := hup7.trans hu7b
        clear hK hS hu710 hu7b hd7 hX7 hR7 hx7 hf7 ht7 hup7
        generalize w1 = wb at *
        obtain ⟨B9, hB9⟩ : ∃ B9, TabX wb B9 g m rc3 R3 rs q := ⟨_, hXb⟩
        obtain ⟨B8, hB8⟩ : ∃ B8, OwnI wb B8 R 0 rc q := ⟨_, hRb⟩
        obtain ⟨w20, hw20⟩ : ∃ w20, w20 = wb.alloc (.cells #[.int .i64 0, .int .i64 0, .int .u64 0, .int .u64 0, .int .i64 0] 37) := ⟨_, rfl⟩
        have hu20 : Up wb w20 := by rw [hw20]; exact (Up.refl wb).alloc _
        have hz20 : w20.heap[wb.heap.size]? = some (.cells #[.int .i64 0, .int .i64 0, .int .u64 0, .int .u64 0, .int .i64 0] 37 (0, 0)) := by rw [hw20]; exact heap_alloc_new wb _
        have HW20 := Lib.hid hw20
        have ngx : gx ≠ g := ne_types hxb hdb (by decide)
        have ngf : gf ≠ g := ne_types hfb hdb (by decide)
        have ngt : gt ≠ g := ne_types htb hdb (by decide)
        have hgl := (Array.getElem?_eq_some_iff.1 hdb).1
        have HK : Hid (∀ W, Rg.Keeps (fun k => k = g) wb W → W.heap[gx]? = some (.cells #[.int .i64 x.s.toInt, .int .i64 x.k.toInt, .int .u64 (x.t.toNat : Int), .int .u64 (x.v.toNat : Int), .int .i64 x.x.toInt] 37 (0, 0)) ∧ W.heap[gf]? = some (.cells #[.int .i64 fr.s.toInt, .int .i64 fr.k.toInt, .int .u64 (fr.t.toNat : Int), .int .u64 (fr.v.toNat : Int), .int .i64 fr.x.toInt] 37 (0, 0)) ∧ W.heap[gt]? = some (.cells #[.int .i64 tq.s.toInt, .int .i64 tq.k.toInt, .int .u64 (tq.t.toNat : Int), .int .u64 (tq.v.toNat : Int), .int .i64 tq.x.toInt] 37 (0, 0)) ∧ OwnI W B8 R 0 rc q ∧ TabX W B9 g m rc3 R3 rs q) := fun W hK =>
          ⟨(hK.block gx (Array.getElem?_eq_some_iff.1 hxb).1 ngx).trans hxb, (hK.block gf (Array.getElem?_eq_some_iff.1 hfb).1 ngf).trans hfb, (hK.block gt (Array.getElem?_eq_some_iff.1 htb).1 ngt).trans htb, OwnI.other hB8 hdb hK, hB9.keeps hdb hK⟩
        have hH0 : ∀ b, TabH g b m rc3 R3 q w20 := fun b => .inl (blk_up hu20 hdb)
        have hws := hupb.size
        clear hXb hRb hxb hfb htb hB9 hw20 ngx ngf ngt
        go_wp2_with fail
        rw [← HW20.out]
        generalize hgw : wb.heap.size = gw at *
        have hgwb : wb.heap.size ≤ gw := Nat.le_of_eq hgw
        have hgg : g < gw := hgl
        have HGW := Lib.hid hgw
        clear HW20 hgl hdb hgw
        go_loopw [20, 22, 23] (fun inv isv i wr => ∃ (k j : Nat) (Q : Option Addr) (qc : Nat) (isB : Bool) (wv : It), i = .int .i64 (k : Int) ∧ inv = .slice Q j qc ∧ isv = .bool isB ∧ k ≤ 0 ∧ Rg.Keeps (fun k => k = g) wb wr ∧ TabH g (gw + 1) m rc3 R3 q wr ∧ wr.heap[gw]? = some (.cells #[.int .i64 wv.s.toInt, .int .i64 wv.k.toInt, .int .u64 (wv.t.toNat : Int), .int .u64 (wv.v.toNat : Int), .int .i64 wv.x.toInt] 37 (0, 0)) ∧ OwnI wr (gw + 1) Q j qc (rangeL (q.take k) fr tq) ∧ Hid (FndS (q.take k) x isB wv)) (fun _ _ i _ => 0 - (intOf i).toNat)
        case atStart => exact ⟨0, 0, none, 0, false, ⟨0, 0, 0, 0, 0⟩, rfl, rfl, rfl, by omega, Rg.Keeps.of_up hu20, hH0 _, hz20, World.ownsRow_nil _ _ _ _, FndS.zero x⟩
        case round =>
          obtain ⟨k, j, Q, qc, isB, wv, rfl, rfl, rfl, hk, hKr, hH, hG, hI, hF⟩ := hrel
          clear hH0 hz20 hu20
          have hj := OwnI.ilen hI
          have hjr := rangeL_len (q.take k) fr tq
          have hjk : j ≤ k := by rw [List.length_take] at hjr; omega
          clear hj hjr
          have i1 : ¬ (k : Int) < ((0 : Nat) : Int) := by omega
          obtain rfl : k = 0 := by omega
          have hall : q.take 0 = q := List.take_of_length_le (by have := HQL.out; omega)
          rw [hall] at hI hF
          have HF := Lib.hid hF.out
          rcases hF.out with ⟨h1, rfl, rfl⟩ | ⟨h1, rfl⟩
          · replace hG : wr.heap[gw]? = some (.cells #[.int .i64 0, .int .i64 0, .int .u64 0, .int .u64 0, .int .i64 0] 37 (0, 0)) := hG
            obtain ⟨f1, f2, f3, f4, f5⟩ := HK.out wr hKr
            obtain ⟨dd, ff, hd⟩ := hH.head
            obtain ⟨⟨x0, x1, x2, x3, x4⟩, -⟩ := And.intro (And.intro (blk_cell f1 0) (And.intro (blk_cell f1 1) (And.intro (blk_cell f1 2) (And.intro (blk_cell f1 3) (blk_cell f1 4))))) trivial
            simp only [List.getElem?_toArray, List.getElem?_cons_zero, List.getElem?_cons_succ] at x0 x1 x2 x3 x4
            have HG := Lib.hid (tget_none hd f5 h1)
            have hgsz : gw < wr.heap.size := (Array.getElem?_eq_some_iff.1 hG).1
            have hupw : Up w wr := keepsUpX hupb hgw5 hKr
            clear f1 hF
            go_wp2_with fail
            refine HG.out.mono ?_
            rintro e w30 ⟨rfl, hu30⟩
            obtain ⟨w31, hw31⟩ : ∃ w31, w31 = w30.alloc (.cells #[.int .i64 0, .int .i64 0, .int .u64 0, .int .u64 0, .int .i64 0] 37) := ⟨_, rfl⟩
            have hu31 : Up wr w31 := by rw [hw31]; exact hu30.alloc _
            have hb31 : w31.heap[w30.heap.size]? = some (.cells #[.int .i64 0, .int .i64 0, .int .u64 0, .int .u64 0, .int .i64 0] 37 (0, 0)) := by rw [hw31]; exact heap_alloc_new w30 _
            have hg31 := blk_up hu31 hG
            have hF31 := blk_up hu31 f2
            have hT31 := blk_up hu31 f3
            have hI31 := own_up hI hu31
            have HRG := Lib.hid (trange_x (blk_up hu31 hd) (f5.up hu31) fr tq)
            have hup31 := hupw.trans hu31
            have HW31 := Lib.hid hw31
            have b0 := blk_cell hb31 0
            have b1 := blk_cell hb31 1
            have b2 := blk_cell hb31 2
            have b3 := blk_cell hb31 3
            have b4 := blk_cell hb31 4
            have c0 := blk_cell hg31 0
            have c1 := blk_cell hg31 1
            have c2' := blk_cell hg31 2
            have c3 := blk_cell hg31 3
            have c4 := blk_cell hg31 4
            have p0 := blk_cell hF31 0
            have p1 := blk_cell hF31 1
            have p2 := blk_cell hF31 2
            have p3 := blk_cell hF31 3
            have p4 := blk_cell hF31 4
            have r0 := blk_cell hT31 0
            have r1 := blk_cell hT31 1
            have r2 := blk_cell hT31 2
            have r3 := blk_cell hT31 3
            have r4 := blk_cell hT31 4
            simp only [List.getElem?_toArray, List.getElem?_cons_zero, List.getElem?_cons_succ] at b0 b1 b2 b3 b4 c0 c1 c2' c3 c4 p0 p1 p2 p3 p4 r0 r1 r2 r3 r4
            rw [HW31.out] at b0 b1 b2 b3 b4 c0 c1 c2' c3 c4 p0 p1 p2 p3 p4 r0 r1 r2 r3 r4
            clear HG hu30 hw31 hu31 hb31 hg31 hF31 hT31 hI hG f2 f3 f4 f5 hd hH hKr hupw x0 x1 x2 x3 x4
            go_wp2_with fail
            rw [← HW31.out]
            refine HRG.out.mono ?_
            rintro e w32 ⟨A32, n32, rfl, hr32, -, hu32⟩
            have hj32 := hr32.ilen
            have hrl := rangeL_len q fr tq
            have HJ := Lib.hid hj32
            have hI32 := own_up hI31 hu32
            have hqq : q.length ≤ 150 := by have := HQL.out; omega
            have hEQ := requal_any A32 n32 n32 _ Q j qc _ w32 hr32 (Rd.own hI32) (by have := HJ.out; omega) (by omega)
            rw [show decide (rangeL q fr tq = rangeL q fr tq) = true by simp] at hEQ
            have HEQ := Lib.hid hEQ
            clear hEQ
            clear hj32 hrl b0 b1 b2 b3 b4 c0 c1 c2' c3 c4 p0 p1 p2 p3 p4 r0 r1 r2 r3 r4 HRG hI31 hI32 hr32
            go_wp2_with fail
            refine HEQ.out.mono ?_
            rintro e w33 ⟨rfl, hu33⟩
            go_wp2_with fail
            refine (awake12_any w33).mono ?_
            rintro e w34 ⟨rfl, hu34⟩
            go_wp2_with fail
            go_ret
            exact ⟨rfl, ((hup31.trans hu32).trans hu33).trans hu34⟩
          · replace hG : wr.heap[gw]? = some (.cells #[.int .i64 wv.s.toInt, .int .i64 wv.k.toInt, .int .u64 (wv.t.toNat : Int), .int .u64 (wv.v.toNat : Int), .int .i64 wv.x.toInt] 37 (0, 0)) := hG
            obtain ⟨f1, f2, f3, f4, f5⟩ := HK.out wr hKr
            obtain ⟨dd, ff, hd⟩ := hH.head
            obtain ⟨⟨x0, x1, x2, x3, x4⟩, -⟩ := And.intro (And.intro (blk_cell f1 0) (And.intro (blk_cell f1 1) (And.intro (blk_cell f1 2) (And.intro (blk_cell f1 3) (blk_cell f1 4))))) trivial
            simp only [List.getElem?_toArray, List.getElem?_cons_zero, List.getElem?_cons_succ] at x0 x1 x2 x3 x4
            have HG := Lib.hid (tget_some hd f5 h1)
            have hgsz : gw < wr.heap.size := (Array.getElem?_eq_some_iff.1 hG).1
            have hupw : Up w wr := keepsUpX hupb hgw5 hKr
            clear f1 hF
            go_wp2_with fail
            refine HG.out.mono ?_
            rintro e w30 ⟨rfl, hu30⟩
            obtain ⟨w31, hw31⟩ : ∃ w31, w31 = w30.alloc (.cells #[.int .i64 wv.s.toInt, .int .i64 wv.k.toInt, .int .u64 (wv.t.toNat : Int), .int .u64 (wv.v.toNat : Int), .int .i64 wv.x.toInt] 37) := ⟨_, rfl⟩
            have hu31 : Up wr w31 := by rw [hw31]; exact hu30.alloc _
            have hb31 : w31.heap[w30.heap.size]? = some (.cells #[.int .i64 wv.s.toInt, .int .i64 wv.k.toInt, .int .u64 (wv.t.toNat : Int), .int .u64 (wv.v.toNat : Int), .int .i64 wv.x.toInt] 37 (0, 0)) := by rw [hw31]; exact heap_alloc_new w30 _
            have hg31 := blk_up hu31 hG
            have hF31 := blk_up hu31 f2
            have hT31 := blk_up hu31 f3
            have hI31 := own_up hI hu31
            have HRG := Lib.hid (trange_x (blk_up hu31 hd) (f5.up hu31) fr tq)
            have hup31 := hupw.trans hu31
            have HW31 := Lib.hid hw31
            have b0 := blk_cell hb31 0
            have b1 := blk_cell hb31 1
            have b2 := blk_cell hb31 2
            have b3 := blk_cell hb31 3
            have b4 := blk_cell hb31 4
            have c0 := blk_cell hg31 0
            have c1 := blk_cell hg31 1
            have c2' := blk_cell hg31 2
            have c3 := blk_cell hg31 3
            have c4 := blk_cell hg31 4
            have p0 := blk_cell hF31 0
            have p1 := blk_cell hF31 1
            have p2 := blk_cell hF31 2
            have p3 := blk_cell hF31 3
            have p4 := blk_cell hF31 4
            have r0 := blk_cell hT31 0
            have r1 := blk_cell hT31 1
            have r2 := blk_cell hT31 2
            have r3 := blk_cell hT31 3
            have r4 := blk_cell hT31 4
            simp only [List.getElem?_toArray, List.getElem?_cons_zero, List.getElem?_cons_succ] at b0 b1 b2 b3 b4 c0 c1 c2' c3 c4 p0 p1 p2 p3 p4 r0 r1 r2 r3 r4
            rw [HW31.out] at b0 b1 b2 b3 b4 c0 c1 c2' c3 c4 p0 p1 p2 p3 p4 r0 r1 r2 r3 r4
            clear HG hu30 hw31 hu31 hb31 hg31 hF31 hT31 hI hG f2 f3 f4 f5 hd hH hKr hupw x0 x1 x2 x3 x4
            go_wp2_with fail
            rw [← HW31.out]
            refine HRG.out.mono ?_
            rintro e w32 ⟨A32, n32, rfl, hr32, -, hu32⟩
            have hj32 := hr32.ilen
            have hrl := rangeL_len q fr tq
            have HJ := Lib.hid hj32
            have hI32 := own_up hI31 hu32
            have hqq : q.length ≤ 150 := by have := HQL.out; omega
            have hEQ := requal_any A32 n32 n32 _ Q j qc _ w32 hr32 (Rd.own hI32) (by have := HJ.out; omega) (by omega)
            rw [show decide (rangeL q fr tq = rangeL q fr tq) = true by simp] at hEQ
            have HEQ := Lib.hid hEQ
            clear hEQ
            clear hj32 hrl b0 b1 b2 b3 b4 c0 c1 c2' c3 c4 p0 p1 p2 p3 p4 r0 r1 r2 r3 r4 HRG hI31 hI32 hr32
            go_wp2_with fail
            refine HEQ.out.mono ?_
            rintro e w33 ⟨rfl, hu33⟩
            go_wp2_with fail
            refine (awake12_any w33).mono ?_
            rintro e w34 ⟨rfl, hu34⟩
            go_wp2_with fail
            go_ret
            exact ⟨rfl, ((hup31.trans hu32).trans hu33).trans hu34⟩
      · kernel_rfl
    · have i1 : (0 : Int) < (rn : Int) := by omega
      have i2 : decide (0 < rn) = true := decide_eq_true (by omega)
      have i3 : decide ((0 : Int) < (rn : Int)) = true := decide_eq_true i1
      have i4 : 0 < rn := by omega
      have hq0 : 0 < q.length := by rw [← HQL.out]; omega
      obtain ⟨y0, hy0⟩ : ∃ y0, q.getD 0 noIt = y0 := ⟨_, rfl⟩
      obtain ⟨z0, hz0⟩ : ∃ z0, q.getD (q.length - 1) noIt = z0 := ⟨_, rfl⟩
      have HF := Lib.hid (tfirst_x hd7 hX7 hq0 hy0)
      go_wp2_with fail
      refine HF.out.mono ?_
      rintro e w8 ⟨rfl, hu8⟩
      obtain ⟨w9, hw9⟩ : ∃ w9, w9 = w8.alloc (.cells #[.int .i64 y0.s.toInt, .int .i64 y0.k.toInt, .int .u64 (y0.t.toNat : Int), .int .u64 (y0.v.toNat : Int), .int .i64 y0.x.toInt] 37) := ⟨_, rfl⟩
      have hu79 : Up w7 w9 := by rw [hw9]; exact hu8.alloc _
      have hb16 : w9.heap[w8.heap.size]? = some (.cells #[.int .i64 y0.s.toInt, .int .i64 y0.k.toInt, .int .u64 (y0.t.toNat : Int), .int .u64 (y0.v.toNat : Int), .int .i64 y0.x.toInt] 37 (0, 0)) := by rw [hw9]; exact heap_alloc_new w8 _
      have HLA := Lib.hid (tlast_x (blk_up hu79 hd7) (hX7.up hu79) hq0 hz0)
      have HW9 := Lib.hid hw9
      clear HF hu8 hw9
      go_wp2_with fail
      rw [← HW9.out]
      refine HLA.out.mono ?_
      rintro e w10 ⟨rfl, hu10⟩
      obtain ⟨w11, hw11⟩ : ∃ w11, w11 = w10.alloc (.cells #[.int .i64 z0.s.toInt, .int .i64 z0.k.toInt, .int .u64 (z0.t.toNat : Int), .int .u64 (z0.v.toNat : Int), .int .i64 z0.x.toInt] 37) := ⟨_, rfl⟩
      have hu911 : Up w9 w11 := by rw [hw11]; exact hu10.alloc _
      have hb18 : w11.heap[w10.heap.size]? = some (.cells #[.int .i64 z0.s.toInt, .int .i64 z0.k.toInt, .int .u64 (z0.t.toNat : Int), .int .u64 (z0.v.toNat : Int), .int .i64 z0.x.toInt] 37 (0, 0)) := by rw [hw11]; exact heap_alloc_new w10 _
      have hb16b := blk_up hu911 hb16
      have hu711 := hu79.trans hu911
      have HW11 := Lib.hid hw11
      obtain ⟨gQ, hgQ, -, -⟩ := own_some hR7 (by omega)
      subst hgQ
      obtain ⟨K9, hK9⟩ : ∃ K9, K9 = rn - 1 := ⟨_, rfl⟩
      have k1 : (rn : Int) - 1 = (K9 : Int) := by omega
      have k2 : (K9 : Int) < (rn : Int) := by omega
      have k3 : K9 < rn := by omega
      have k4 : IntKind.i64.wrap (K9 : Int) = (K9 : Int) := IntWalk.i64_in _ (by omega)
      have hz1 : q.getD K9 noIt = z0 := by rw [← hz0, ← HQL.out, hK9]
      have hS13 : ∀ W, Up w11 W → ((W.cell? ⟨gQ, 0, none⟩ = some (.int .i64 y0.s.toInt) ∧ W.cell? ⟨gQ, 1, none⟩ = some (.int .i64 y0.k.toInt) ∧ W.cell? ⟨gQ, 2, none⟩ = some (.int .u64 (y0.t.toNat : Int)) ∧ W.cell? ⟨gQ, 3, none⟩ = some (.int .u64 (y0.v.toNat : Int)) ∧ W.cell? ⟨gQ, 4, none⟩ = some (.int .i64 y0.x.toInt)) ∧
          (W.cell? ⟨gQ, K9 * 5, none⟩ = some (.int .i64 z0.s.toInt) ∧ W.cell? ⟨gQ, K9 * 5 + 1, none⟩ = some (.int .i64 z0.k.toInt) ∧ W.cell? ⟨gQ, K9 * 5 + 2, none⟩ = some (.int .u64 (z0.t.toNat : Int)) ∧ W.cell? ⟨gQ, K9 * 5 + 3, none⟩ = some (.int .u64 (z0.v.toNat : Int)) ∧ W.cell? ⟨gQ, K9 * 5 + 4, none⟩ = some (.int .i64 z0.x.toInt)) ∧
          (W.cell? ⟨w8.heap.size, 0, none⟩ = some (.int .i64 y0.s.toInt) ∧ W.cell? ⟨w8.heap.size, 1, none⟩ = some (.int .i64 y0.k.toInt) ∧ W.cell? ⟨w8.heap.size, 2, none⟩ = some (.int .u64 (y0.t.toNat : Int)) ∧ W.cell? ⟨w8.heap.size, 3, none⟩ = some (.int .u64 (y0.v.toNat : Int)) ∧ W.cell? ⟨w8.heap.size, 4, none⟩ = some (.int .i64 y0.x.toInt)) ∧
          (W.cell? ⟨w10.heap.size, 0, none⟩ = some (.int .i64 z0.s.toInt) ∧ W.cell? ⟨w10.heap.size, 1, none⟩ = some (.int .i64 z0.k.toInt) ∧ W.cell? ⟨w10.heap.size, 2, none⟩ = some (.int .u64 (z0.t.toNat : Int)) ∧ W.cell? ⟨w10.heap.size, 3, none⟩ = some (.int .u64 (z0.v.toNat : Int)) ∧ W.cell? ⟨w10.heap.size, 4, none⟩ = some (.int .i64 z0.x.toInt))) ∧ Up w11 W := fun W h => by
        have h1 := (own_item_at (hR7.up (hu711.trans h)) (i := 0) (by omega)).1
        have h2 := (own_item_at (hR7.up (hu711.trans h)) k3).1
        rw [hy0, Nat.zero_mul] at h1
        simp only [Nat.zero_add] at h1
        rw [hz1] at h2
        have h5 := blk_up h hb16b
        have h6 := blk_up h hb18
        exact ⟨⟨h1, h2, ⟨blk_cell h5 0, blk_cell h5 1, blk_cell h5 2, blk_cell h5 3, blk_cell h5 4⟩, ⟨blk_cell h6 0, blk_cell h6 1, blk_cell h6 2, blk_cell h6 3, blk_cell h6 4⟩⟩, h⟩
      clear HLA hu79 hb16 hb18 hb16b hu911 hw11 hy0 hz0 hz1 hK9 hu10 HW9
      go_wp2_with fail
      rw [← HW11.out]
      apply Rg.region_up _ (by kernel_rfl) (by kernel_rfl) hS13
      · intro QN hQN
        iterate 6 (apply Rg.RK.ok; (· intro vs w1 hS; go_simp; with_reducible rfl); (· rfl); simp only [Act.put, List.setIfInBounds_toArray, List.set_cons_zero, List.set_cons_succ, Nat.reduceAdd])
        iterate 3 (apply Rg.RK.gok (t := 97); (· intro vs w1 hS; go_simp; with_reducible rfl); (· rfl); (· intro vs; rfl); simp only [Act.put, List.setIfInBounds_toArray, List.set_cons_zero, List.set_cons_succ, Nat.reduceAdd])
        iterate 2 (apply Rg.RK.ok; (· intro vs w1 hS; go_simp; with_reducible rfl); (· rfl); simp only [Act.put, List.setIfInBounds_toArray, List.set_cons_zero, List.set_cons_succ, Nat.reduceAdd])
        iterate 2 (apply Rg.RK.gok (t := 102); (· intro vs w1 hS; go_simp; with_reducible rfl); (· rfl); (· intro vs; rfl); simp only [Act.put, List.setIfInBounds_toArray, List.set_cons_zero, List.set_cons_succ, Nat.reduceAdd])
        iterate 6 (apply Rg.RK.gok (t := 104); (· intro vs w1 hS; go_simp; with_reducible rfl); (· rfl); (· intro vs; rfl); simp only [Act.put, List.setIfInBounds_toArray, List.set_cons_zero, List.set_cons_succ, Nat.reduceAdd])
        iterate 8 (apply Rg.RK.gok (t := 110); (· intro vs w1 hS; go_simp; with_reducible rfl); (· rfl); (· intro vs; rfl); simp only [Act.put, List.setIfInBounds_toArray, List.set_cons_zero, List.set_cons_succ, Nat.reduceAdd])
        iterate 1 (apply Rg.RK.gok (t := 104); (· intro vs w1 hS; go_simp; with_reducible rfl); (· rfl); (· intro vs; rfl); simp only [Act.put, List.setIfInBounds_toArray, List.set_cons_zero, List.set_cons_succ, Nat.reduceAdd])
        iterate 1 (apply Rg.RK.gok (t := 102); (· intro vs w1 hS; go_simp; with_reducible rfl); (· rfl); (· intro vs; rfl); simp only [Act.put, List.setIfInBounds_toArray, List.set_cons_zero, List.set_cons_succ, Nat.reduceAdd])
        iterate 1 (apply Rg.RK.ok; (· intro vs w1 hS; go_simp; with_reducible rfl); (· rfl); simp only [Act.put, List.setIfInBounds_toArray, List.set_cons_zero, List.set_cons_succ, Nat.reduceAdd])
        apply Rg.RK.fin []
        intro vs w1 hK hS _
        refine hQN.out _ _ ?_
        clear hQN
        have hu7b := hu711.trans hS.2
        have hdb := blk_up hu7b hd7
        have hXb := hX7.up hu7b
        have hRb := hR7.up hu7b
        have hxb := blk_up hu7b hx7
        have hfb := blk_up hu7b hf7
        have htb := blk_up hu7b ht7
        have hupb := hup7.trans hu7b
        clear hK hS hu711 hu7b hd7 hX7 hR7 hx7 hf7 ht7 hup7 hS13 HW11 k1 k2 k3 k4 hq0 i1 i2 i3 i4 hN
        generalize (some (⟨gQ, 0, none⟩ : Addr)) = R at *
        generalize w1 = wb at *
        obtain ⟨B9, hB9⟩ : ∃ B9, TabX wb B9 g m rc3 R3 rs q := ⟨_, hXb⟩
        obtain ⟨B8, hB8⟩ : ∃ B8, OwnI wb B8 R rn rc q := ⟨_, hRb⟩
        obtain ⟨w20, hw20⟩ : ∃ w20, w20 = wb.alloc (.cells #[.int .i64 0, .int .i64 0, .int .u64 0, .int .u64 0, .int .i64 0] 37) := ⟨_, rfl⟩
        have hu20 : Up wb w20 := by rw [hw20]; exact (Up.refl wb).alloc _
        have hz20 : w20.heap[wb.heap.size]? = some (.cells #[.int .i64 0, .int .i64 0, .int .u64 0, .int .u64 0, .int .i64 0] 37 (0, 0)) := by rw [hw20]; exact heap_alloc_new wb _
        have HW20 := Lib.hid hw20
        have ngx : gx ≠ g := ne_types hxb hdb (by decide)
        have ngf : gf ≠ g := ne_types hfb hdb (by decide)
        have ngt : gt ≠ g := ne_types htb hdb (by decide)
        have hgl := (Array.getElem?_eq_some_iff.1 hdb).1
        have HK : Hid (∀ W, Rg.Keeps (fun k => k = g) wb W → W.heap[gx]? = some (.cells #[.int .i64 x.s.toInt, .int .i64 x.k.toInt, .int .u64 (x.t.toNat : Int), .int .u64 (x.v.toNat : Int), .int .i64 x.x.toInt] 37 (0, 0)) ∧ W.heap[gf]? = some (.cells #[.int .i64 fr.s.toInt, .int .i64 fr.k.toInt, .int .u64 (fr.t.toNat : Int), .int .u64 (fr.v.toNat : Int), .int .i64 fr.x.toInt] 37 (0, 0)) ∧ W.heap[gt]? = some (.cells #[.int .i64 tq.s.toInt, .int .i64 tq.k.toInt, .int .u64 (tq.t.toNat : Int), .int .u64 (tq.v.toNat : Int), .int .i64 tq.x.toInt] 37 (0, 0)) ∧ OwnI W B8 R rn rc q ∧ TabX W B9 g m rc3 R3 rs q) := fun W hK =>
          ⟨(hK.block gx (Array.getElem?_eq_some_iff.1 hxb).1 ngx).trans hxb, (hK.block gf (Array.getElem?_eq_some_iff.1 hfb).1 ngf).trans hfb, (hK.block gt (Array.getElem?_eq_some_iff.1 htb).1 ngt).trans htb, OwnI.other hB8 hdb hK, hB9.keeps hdb hK⟩
        have hH0 : ∀ b, TabH g b m rc3 R3 q w20 := fun b => .inl (blk_up hu20 hdb)
        have hws := hupb.size
        clear hXb hRb hxb hfb htb hB9 hw20 ngx ngf ngt
        go_wp2_with fail
        rw [← HW20.out]
        generalize hgw : wb.heap.size = gw at *
        have hgwb : wb.heap.size ≤ gw := Nat.le_of_eq hgw
        have hgg : g < gw := hgl
        have HGW := Lib.hid hgw
        clear HW20 hgl hdb hgw
        go_loopw [20, 22, 23] (fun inv isv i wr => ∃ (k j : Nat) (Q : Option Addr) (qc : Nat) (isB : Bool) (wv : It), i = .int .i64 (k : Int) ∧ inv = .slice Q j qc ∧ isv = .bool isB ∧ k ≤ rn ∧ Rg.Keeps (fun k => k = g) wb wr ∧ TabH g (gw + 1) m rc3 R3 q wr ∧ wr.heap[gw]? = some (.cells #[.int .i64 wv.s.toInt, .int .i64 wv.k.toInt, .int .u64 (wv.t.toNat : Int), .int .u64 (wv.v.toNat : Int), .int .i64 wv.x.toInt] 37 (0, 0)) ∧ OwnI wr (gw + 1) Q j qc (rangeL (q.take k) fr tq) ∧ Hid (FndS (q.take k) x isB wv)) (fun _ _ i _ => rn - (intOf i).toNat)
        case atStart => exact ⟨0, 0, none, 0, false, ⟨0, 0, 0, 0, 0⟩, rfl, rfl, rfl, by omega, Rg.Keeps.of_up hu20, hH0 _, hz20, World.ownsRow_nil _ _ _ _, FndS.zero x⟩
        case round =>
          obtain ⟨k, j, Q, qc, isB, wv, rfl, rfl, rfl, hk, hKr, hH, hG, hI, hF⟩ := hrel
          clear hH0 hz20 hu20
          have hj := OwnI.ilen hI
          have hjr := rangeL_len (q.take k) fr tq
          have hjk : j ≤ k := by rw [List.length_take] at hjr; omega
          clear hj hjr
          by_cases hlt : k < rn
          · have i1 : (k : Int) < (rn : Int) := by omega
            have hkq : k < q.length := by have := HQL.out; omega
            obtain ⟨gQ, hgQ, -, -⟩ := own_some hB8 (by omega)
            subst hgQ
            obtain ⟨y, hy⟩ : ∃ y, y = q.getD k noIt := ⟨_, rfl⟩
            have hyk : q[k] = y := by rw [hy]; simp [List.getD, hkq]
            have hym : y ∈ q := by rw [← hyk]; exact List.getElem_mem hkq
            have hsn := rangeL_snoc q k hkq fr tq
            rw [hyk] at hsn
            have htk : q.take (k + 1) = q.take k ++ [y] := by rw [List.take_succ_eq_append_getElem hkq, hyk]
            have hcc : ∀ W, Rg.Keeps (fun k => k = g) wb W → (W.cell? ⟨gQ, k * 5, none⟩ = some (.int .i64 y.s.toInt) ∧ W.cell? ⟨gQ, k * 5 + 1, none⟩ = some (.int .i64 y.k.toInt) ∧ W.cell? ⟨gQ, k * 5 + 2, none⟩ = some (.int .u64 (y.t.toNat : Int)) ∧ W.cell? ⟨gQ, k * 5 + 3, none⟩ = some (.int .u64 (y.v.toNat : Int)) ∧ W.cell? ⟨gQ, k * 5 + 4, none⟩ = some (.int .i64 y.x.toInt)) ∧
                (W.cell? ⟨gx, 0, none⟩ = some (.int .i64 x.s.toInt) ∧ W.cell? ⟨gx, 1, none⟩ = some (.int .i64 x.k.toInt) ∧ W.cell? ⟨gx, 2, none⟩ = some (.int .u64 (x.t.toNat : Int)) ∧ W.cell? ⟨gx, 3, none⟩ = some (.int .u64 (x.v.toNat : Int)) ∧ W.cell? ⟨gx, 4, none⟩ = some (.int .i64 x.x.toInt)) ∧
                (W.cell? ⟨gf, 0, none⟩ = some (.int .i64 fr.s.toInt) ∧ W.cell? ⟨gf, 1, none⟩ = some (.int .i64 fr.k.toInt) ∧ W.cell? ⟨gf, 2, none⟩ = some (.int .u64 (fr.t.toNat : Int)) ∧ W.cell? ⟨gf, 3, none⟩ = some (.int .u64 (fr.v.toNat : Int)) ∧ W.cell? ⟨gf, 4, none⟩ = some (.int .i64 fr.x.toInt)) ∧
                (W.cell? ⟨gt, 0, none⟩ = some (.int .i64 tq.s.toInt) ∧ W.cell? ⟨gt, 1, none⟩ = some (.int .i64 tq.k.toInt) ∧ W.cell? ⟨gt, 2, none⟩ = some (.int .u64 (tq.t.toNat : Int)) ∧ W.cell? ⟨gt, 3, none⟩ = some (.int .u64 (tq.v.toNat : Int)) ∧ W.cell? ⟨gt, 4, none⟩ = some (.int .i64 tq.x.toInt)) := fun W hK => by
              obtain ⟨f1, f2, f3, f4, -⟩ := HK.out W hK
              have h1 := (own_item_at f4 hlt).1
              rw [← hy] at h1
              exact ⟨h1, ⟨blk_cell f1 0, blk_cell f1 1, blk_cell f1 2, blk_cell f1 3, blk_cell f1 4⟩, ⟨blk_cell f2 0, blk_cell f2 1, blk_cell f2 2, blk_cell f2 3, blk_cell f2 4⟩, ⟨blk_cell f3 0, blk_cell f3 1, blk_cell f3 2, blk_cell f3 3, blk_cell f3 4⟩⟩
            have HCC := Lib.hid hcc
            have HSN := Lib.hid hsn
            have HTK := Lib.hid htk
            have HYK := Lib.hid hyk
            have hS21 := fun W (h : Up wr W) => And.intro (hcc W (KeepsT hKr (Rg.Keeps.of_up h))) (And.intro (KeepsT hKr (Rg.Keeps.of_up h)) h)
            clear hcc hsn htk hyk hy
            by_cases hla : lessB y fr = true
            · have HLA := fun W => rless_any y fr W
              simp only [hla] at HLA
              have hsk : rangeL (q.take (k + 1)) fr tq = rangeL (q.take k) fr tq := by rw [HSN.out, hla]; simp
              rw [← hsk] at hI
              clear hsk HSN
              go_wp2_with fail
              apply Rg.region_up _ (by kernel_rfl) (by kernel_rfl) hS21
              · intro QN hQN
                iterate 5 (apply Rg.RK.ok; (· intro vs w1 hS; go_simp; with_reducible rfl); (· rfl); simp only [Act.put, List.setIfInBounds_toArray, List.set_cons_zero, List.set_cons_succ, Nat.reduceAdd])
                apply Rg.RK.call (.bool true) []
                · rfl
                · intro vs w1 hK hS _ K hKK
                  go_simp
                  refine (HLA w1).mono ?_
                  rintro e w2 ⟨rfl, hu2⟩
                  exact hKK.out _ hu2
                simp only [Act.put, List.setIfInBounds_toArray, List.set_cons_zero, List.set_cons_succ, Nat.reduceAdd]
                iterate 2 (apply Rg.RK.ok; (· intro vs w1 hS; go_simp; with_reducible rfl); (· rfl); simp only [Act.put, List.setIfInBounds_toArray, List.set_cons_zero, List.set_cons_succ, Nat.reduceAdd])
                iterate 7 (apply Rg.RK.gno (t := 136) (y := false); (· rfl); (· intro vs; rfl); (· rfl); simp only [Act.put, List.setIfInBounds_toArray, List.set_cons_zero, List.set_cons_succ, Nat.reduceAdd])
                iterate 1 (apply Rg.RK.ok; (· intro vs w1 hS; go_simp; with_reducible rfl); (· rfl); simp only [Act.put, List.setIfInBounds_toArray, List.set_cons_zero, List.set_cons_succ, Nat.reduceAdd])
                apply Rg.RK.fin []
                intro vs w1 hK hS _
                refine hQN.out _ _ ?_
                clear hQN
                obtain ⟨-, hKA, huA⟩ := hS
                have hHA := hH.up huA
                have hGA := blk_up huA hG
                have hIA := own_up hI huA
                clear hK hS21 hH hG hI HLA hKr huA
                generalize w1 = wA at *
                have hjA : j ≤ k + 1 := by omega
                have hS23 := fun W (h : Up wA W) => And.intro (HCC.out W (KeepsT hKA (Rg.Keeps.of_up h))) (And.intro (KeepsT hKA (Rg.Keeps.of_up h)) h)
                by_cases hsm : sameB y x = true
                · have HSM := fun W => rsame_any y x W
                  simp only [hsm] at HSM
                  have hFB : Hid (FndS (q.take (k + 1)) x true y) := by
                    show FndS _ _ _ _
                    rw [HTK.out]
                    exact FndS.hit (makeE_ok HE.out).2.1 hkq HYK.out hF.out hsm
                  clear hF
                  go_wp2_with fail
                  apply Rg.region_up _ (by kernel_rfl) (by kernel_rfl) hS23
                  · intro QN hQN
                    iterate 5 (apply Rg.RK.ok; (· intro vs w1 hS; go_simp; with_reducible rfl); (· rfl); simp only [Act.put, List.setIfInBounds_toArray, List.set_cons_zero, List.set_cons_succ, Nat.reduceAdd])
                    apply Rg.RK.call (.bool true) []
                    · rfl
                    · intro vs w1 hK hS _ K hKK
                      go_simp
                      refine (HSM w1).mono ?_
                      rintro e w2 ⟨rfl, hu2⟩
                      exact hKK.out _ hu2
                    simp only [Act.put, List.setIfInBounds_toArray, List.set_cons_zero, List.set_cons_succ, Nat.reduceAdd]
                    apply Rg.RK.fin []
                    intro vs w1 hK hS _
                    refine hQN.out _ _ ?_
                    clear hQN
                    obtain ⟨⟨⟨u0, u1, u2, u3, u4⟩, -⟩, hK1, hu1⟩ := hS
                    have hH1 := hHA.up hu1
                    have hG1 := blk_up hu1 hGA
                    have hI1 := own_up hIA hu1
                    clear hK hS23 hHA hGA hIA HSM hKA hu1
                    generalize w1 = w2 at *
                    go_wp2_with (first
                      | (with_reducible show wpList _ _ _ (⟨none, .store 37 _ _, _, _, _, none⟩ :: _) _ _
                         go_loud (refine wpList_store_it5 rfl _ _ rfl (g := gw) (z0 := .int .i64 y.s.toInt) (z1 := .int .i64 y.k.toInt) (z2 := .int .u64 (y.t.toNat : Int)) (z3 := .int .u64 (y.v.toNat : Int)) (z4 := .int .i64 y.x.toInt) (by kernel_rfl) (by kernel_rfl) hG1 (by simp [Value.oneCell']) ?_)
                         intro w5 hG5 hbut
                         have hK5 := keeps_wb hK1 hbut hgwb
                         have hH5 := hH1.keeps hbut (by omega) (Nat.lt_succ_self gw)
                         have hI5 := OwnI.keeps hI1 hbut (fun k hk e => by have e' : k = gw := e; omega)
                         clear hbut hG1 hK1 hH1 hI1 u0 u1 u2 u3 u4
                         obtain ⟨⟨u0, u1, u2, u3, u4⟩, -⟩ := HCC.out w5 hK5))
                    have hgsz : gw + 1 ≤ (w5).heap.size := (Array.getElem?_eq_some_iff.1 hG5).1
                    refine (tmay_x hH5 (HK.out _ hK5).2.2.2.2 hgsz hym).mono ?_
                    rintro e w9 ⟨rfl, hH9, hK9⟩
                    obtain ⟨d9, f9, hd9⟩ := (hH5).head
                    have hI9 := OwnI.other hI5 hd9 hK9
                    have hG9 := (hK9.block gw hgsz (by show ¬ gw = g; omega)).trans hG5
                    have hK10 := KeepsT hK5 hK9
                    clear hd9 hgsz hH5 hG5 hI5 hK5 hK9
                    go_wp2_with fail
                    go_roundw
                    case rel => exact ⟨k + 1, j, Q, qc, true, y, by go_num, rfl, rfl, by omega, hK10, hH9, hG9, hI9, hFB⟩
                    case measure => simp [intOf]; omega
                  · kernel_rfl
                · rw [Bool.not_eq_true] at hsm
                  have HSM := fun W => rsame_any y x W
                  simp only [hsm] at HSM
                  have hFB : Hid (FndS (q.take (k + 1)) x isB wv) := by
                    show FndS _ _ _ _
                    rw [HTK.out]
                    exact FndS.skip hF.out hsm
                  clear hF
                  go_wp2_with fail
                  apply Rg.region_up _ (by kernel_rfl) (by kernel_rfl) hS23
                  · intro QN hQN
                    iterate 5 (apply Rg.RK.ok; (· intro vs w1 hS; go_simp; with_reducible rfl); (· rfl); simp only [Act.put, List.setIfInBounds_toArray, List.set_cons_zero, List.set_cons_succ, Nat.reduceAdd])
                    apply Rg.RK.call (.bool false) []
                    · rfl
                    · intro vs w1 hK hS _ K hKK
                      go_simp
                      refine (HSM w1).mono ?_
                      rintro e w2 ⟨rfl, hu2⟩
                      exact hKK.out _ hu2
                    simp only [Act.put, List.setIfInBounds_toArray, List.set_cons_zero, List.set_cons_succ, Nat.reduceAdd]
                    apply Rg.RK.fin []
                    intro vs w1 hK hS _
                    refine hQN.out _ _ ?_
                    clear hQN
                    obtain ⟨⟨⟨u0, u1, u2, u3, u4⟩, -⟩, hK5, hu1⟩ := hS
                    have hH5 := hHA.up hu1
                    have hG5 := blk_up hu1 hGA
                    have hI5 := own_up hIA hu1
                    clear hK hS23 hHA hGA hIA HSM hKA hu1
                    generalize w1 = w5 at *
                    go_wp2_with fail
                    have hgsz : gw + 1 ≤ (w5).heap.size := (Array.getElem?_eq_some_iff.1 hG5).1
                    refine (tmay_x hH5 (HK.out _ hK5).2.2.2.2 hgsz hym).mono ?_
                    rintro e w9 ⟨rfl, hH9, hK9⟩
                    obtain ⟨d9, f9, hd9⟩ := (hH5).head
                    have hI9 := OwnI.other hI5 hd9 hK9
                    have hG9 := (hK9.block gw hgsz (by show ¬ gw = g; omega)).trans hG5
                    have hK10 := KeepsT hK5 hK9
                    clear hd9 hgsz hH5 hG5 hI5 hK5 hK9
                    go_wp2_with fail
                    go_roundw
                    case rel => exact ⟨k + 1, j, Q, qc, isB, wv, by go_num, rfl, rfl, by omega, hK10, hH9, hG9, hI9, hFB⟩
                    case measure => simp [intOf]; omega
                  · kernel_rfl
              · kernel_rfl
            · rw [Bool.not_eq_true] at hla
              have HLA := fun W => rless_any y fr W
              simp only [hla] at HLA
              by_cases hlb : lessB tq y = true
              · have HLB := fun W => rless_any tq y W
                simp only [hlb] at HLB
                have hsk : rangeL (q.take (k + 1)) fr tq = rangeL (q.take k) fr tq := by rw [HSN.out, hlb]; simp
                rw [← hsk] at hI
                clear hsk HSN
                go_wp2_with fail
                apply Rg.region_up _ (by kernel_rfl) (by kernel_rfl) hS21
                · intro QN hQN
                  iterate 5 (apply Rg.RK.ok; (· intro vs w1 hS; go_simp; with_reducible rfl); (· rfl); simp only [Act.put, List.setIfInBounds_toArray, List.set_cons_zero, List.set_cons_succ, Nat.reduceAdd])
                  apply Rg.RK.call (.bool false) []
                  · rfl
                  · intro vs w1 hK hS _ K hKK
                    go_simp
                    refine (HLA w1).mono ?_
                    rintro e w2 ⟨rfl, hu2⟩
                    exact hKK.out _ hu2
                  simp only [Act.put, List.setIfInBounds_toArray, List.set_cons_zero, List.set_cons_succ, Nat.reduceAdd]
                  iterate 2 (apply Rg.RK.ok; (· intro vs w1 hS; go_simp; with_reducible rfl); (· rfl); simp only [Act.put, List.setIfInBounds_toArray, List.set_cons_zero, List.set_cons_succ, Nat.reduceAdd])
                  iterate 5 (apply Rg.RK.gok (t := 136); (· intro vs w1 hS; go_simp; with_reducible rfl); (· rfl); (· intro vs; rfl); simp only [Act.put, List.setIfInBounds_toArray, List.set_cons_zero, List.set_cons_succ, Nat.reduceAdd])
                  apply Rg.RK.gcall (t := 136) (.bool true) []
                  · rfl
                  · intro vs; rfl
                  · intro vs w1 hK hS _ K hKK
                    go_simp
                    refine (HLB w1).mono ?_
                    rintro e w2 ⟨rfl, hu2⟩
                    exact hKK.out _ hu2
                  simp only [Act.put, List.setIfInBounds_toArray, List.set_cons_zero, List.set_cons_succ, Nat.reduceAdd]
                  iterate 1 (apply Rg.RK.gok (t := 136); (· intro vs w1 hS; go_simp; with_reducible rfl); (· rfl); (· intro vs; rfl); simp only [Act.put, List.setIfInBounds_toArray, List.set_cons_zero, List.set_cons_succ, Nat.reduceAdd])
                  iterate 1 (apply Rg.RK.ok; (· intro vs w1 hS; go_simp; with_reducible rfl); (· rfl); simp only [Act.put, List.setIfInBounds_toArray, List.set_cons_zero, List.set_cons_succ, Nat.reduceAdd])
                  apply Rg.RK.fin []
                  intro vs w1 hK hS _
                  refine hQN.out _ _ ?_
                  clear hQN
                  obtain ⟨-, hKA, huA⟩ := hS
                  have hHA := hH.up huA
                  have hGA := blk_up huA hG
                  have hIA := own_up hI huA
                  clear hK hS21 hH hG hI HLA HLB hKr huA
                  generalize w1 = wA at *
                  have hjA : j ≤ k + 1 := by omega
                  have hS23 := fun W (h : Up wA W) => And.intro (HCC.out W (KeepsT hKA (Rg.Keeps.of_up h))) (And.intro (KeepsT hKA (Rg.Keeps.of_up h)) h)
                  by_cases hsm : sameB y x = true
                  · have HSM := fun W => rsame_any y x W
                    simp only [hsm] at HSM
                    have hFB : Hid (FndS (q.take (k + 1)) x true y) := by
                      show FndS _ _ _ _
                      rw [HTK.out]
                      exact FndS.hit (makeE_ok HE.out).2.1 hkq HYK.out hF.out hsm
                    clear hF
                    go_wp2_with fail
                    apply Rg.region_up _ (by kernel_rfl) (by kernel_rfl) hS23
                    · intro QN hQN
                      iterate 5 (apply Rg.RK.ok; (· intro vs w1 hS; go_simp; with_reducible rfl); (· rfl); simp only [Act.put, List.setIfInBounds_toArray, List.set_cons_zero, List.set_cons_succ, Nat.reduceAdd])
                      apply Rg.RK.call (.bool true) []
                      · rfl
                      · intro vs w1 hK hS _ K hKK
                        go_simp
                        refine (HSM w1).mono ?_
                        rintro e w2 ⟨rfl, hu2⟩
                        exact hKK.out _ hu2
                      simp only [Act.put, List.setIfInBounds_toArray, List.set_cons_zero, List.set_cons_succ, Nat.reduceAdd]
                      apply Rg.RK.fin []
                      intro vs w1 hK hS _
                      refine hQN.out _ _ ?_
                      clear hQN
                      obtain ⟨⟨⟨u0, u1, u2, u3, u4⟩, -⟩, hK1, hu1⟩ := hS
                      have hH1 := hHA.up hu1
                      have hG1 := blk_up hu1 hGA
                      have hI1 := own_up hIA hu1
                      clear hK hS23 hHA hGA hIA HSM hKA hu1
                      generalize w1 = w2 at *
                      go_wp2_with (first
                        | (with_reducible show wpList _ _ _ (⟨none, .store 37 _ _, _, _, _, none⟩ :: _) _ _
                           go_loud (refine wpList_store_it5 rfl _ _ rfl (g := gw) (z0 := .int .i64 y.s.toInt) (z1 := .int .i64 y.k.toInt) (z2 := .int .u64 (y.t.toNat : Int)) (z3 := .int .u64 (y.v.toNat : Int)) (z4 := .int .i64 y.x.toInt) (by kernel_rfl) (by kernel_rfl) hG1 (by simp [Value.oneCell']) ?_)
                           intro w5 hG5 hbut
                           have hK5 := keeps_wb hK1 hbut hgwb
                           have hH5 := hH1.keeps hbut (by omega) (Nat.lt_succ_self gw)
                           have hI5 := OwnI.keeps hI1 hbut (fun k hk e => by have e' : k = gw := e; omega)
                           clear hbut hG1 hK1 hH1 hI1 u0 u1 u2 u3 u4
                           obtain ⟨⟨u0, u1, u2, u3, u4⟩, -⟩ := HCC.out w5 hK5))
                      have hgsz : gw + 1 ≤ (w5).heap.size := (Array.getElem?_eq_some_iff.1 hG5).1
                      refine (tmay_x hH5 (HK.out _ hK5).2.2.2.2 hgsz hym).mono ?_
                      rintro e w9 ⟨rfl, hH9, hK9⟩
                      obtain ⟨d9, f9, hd9⟩ := (hH5).head
                      have hI9 := OwnI.other hI5 hd9 hK9
                      have hG9 := (hK9.block gw hgsz (by show ¬ gw = g; omega)).trans hG5
                      have hK10 := KeepsT hK5 hK9
                      clear hd9 hgsz hH5 hG5 hI5 hK5 hK9
                      go_wp2_with fail
                      go_roundw
                      case rel => exact ⟨k + 1, j, Q, qc, true, y, by go_num, rfl, rfl, by omega, hK10, hH9, hG9, hI9, hFB⟩
                      case measure => simp [intOf]; omega
                    · kernel_rfl
                  · rw [Bool.not_eq_true] at hsm
                    have HSM := fun W => rsame_any y x W
                    simp only [hsm] at HSM
                    have hFB : Hid (FndS (q.take (k + 1)) x isB wv) := by
                      show FndS _ _ _ _
                      rw [HTK.out]
                      exact FndS.skip hF.out hsm
                    clear hF
                    go_wp2_with fail
                    apply Rg.region_up _ (by kernel_rfl) (by kernel_rfl) hS23
                    · intro QN hQN
                      iterate 5 (apply Rg.RK.ok; (· intro vs w1 hS; go_simp; with_reducible rfl); (· rfl); simp only [Act.put, List.setIfInBounds_toArray, List.set_cons_zero, List.set_cons_succ, Nat.reduceAdd])
                      apply Rg.RK.call (.bool false) []
                      · rfl
                      · intro vs w1 hK hS _ K hKK
                        go_simp
                        refine (HSM w1).mono ?_
                        rintro e w2 ⟨rfl, hu2⟩
                        exact hKK.out _ hu2
                      simp only [Act.put, List.setIfInBounds_toArray, List.set_cons_zero, List.set_cons_succ, Nat.reduceAdd]
                      apply Rg.RK.fin []
                      intro vs w1 hK hS _
                      refine hQN.out _ _ ?_
                      clear hQN
                      obtain ⟨⟨⟨u0, u1, u2, u3, u4⟩, -⟩, hK5, hu1⟩ := hS
                      have hH5 := hHA.up hu1
                      have hG5 := blk_up hu1 hGA
                      have hI5 := own_up hIA hu1
                      clear hK hS23 hHA hGA hIA HSM hKA hu1
                      generalize w1 = w5 at *
                      go_wp2_with fail
                      have hgsz : gw + 1 ≤ (w5).heap.size := (Array.getElem?_eq_some_iff.1 hG5).1
                      refine (tmay_x hH5 (HK.out _ hK5).2.2.2.2 hgsz hym).mono ?_
                      rintro e w9 ⟨rfl, hH9, hK9⟩
                      obtain ⟨d9, f9, hd9⟩ := (hH5).head
                      have hI9 := OwnI.other hI5 hd9 hK9
                      have hG9 := (hK9.block gw hgsz (by show ¬ gw = g; omega)).trans hG5
                      have hK10 := KeepsT hK5 hK9
                      clear hd9 hgsz hH5 hG5 hI5 hK5 hK9
                      go_wp2_with fail
                      go_roundw
                      case rel => exact ⟨k + 1, j, Q, qc, isB, wv, by go_num, rfl, rfl, by omega, hK10, hH9, hG9, hI9, hFB⟩
                      case measure => simp [intOf]; omega
                    · kernel_rfl
                · kernel_rfl
              · rw [Bool.not_eq_true] at hlb
                have HLB := fun W => rless_any tq y W
                simp only [hlb] at HLB
                have hsk : rangeL (q.take (k + 1)) fr tq = rangeL (q.take k) fr tq ++ [y] := by rw [HSN.out, hla, hlb]; simp
                have HSK := Lib.hid hsk
                clear hsk HSN
                go_wp2_with fail
                apply Rg.region_up _ (by kernel_rfl) (by kernel_rfl) hS21
                · intro QN hQN
                  iterate 5 (apply Rg.RK.ok; (· intro vs w1 hS; go_simp; with_reducible rfl); (· rfl); simp only [Act.put, List.setIfInBounds_toArray, List.set_cons_zero, List.set_cons_succ, Nat.reduceAdd])
                  apply Rg.RK.call (.bool false) []
                  · rfl
                  · intro vs w1 hK hS _ K hKK
                    go_simp
                    refine (HLA w1).mono ?_
                    rintro e w2 ⟨rfl, hu2⟩
                    exact hKK.out _ hu2
                  simp only [Act.put, List.setIfInBounds_toArray, List.set_cons_zero, List.set_cons_succ, Nat.reduceAdd]
                  iterate 2 (apply Rg.RK.ok; (· intro vs w1 hS; go_simp; with_reducible rfl); (· rfl); simp only [Act.put, List.setIfInBounds_toArray, List.set_cons_zero, List.set_cons_succ, Nat.reduceAdd])
                  iterate 5 (apply Rg.RK.gok (t := 136); (· intro vs w1 hS; go_simp; with_reducible rfl); (· rfl); (· intro vs; rfl); simp only [Act.put, List.setIfInBounds_toArray, List.set_cons_zero, List.set_cons_succ, Nat.reduceAdd])
                  apply Rg.RK.gcall (t := 136) (.bool false) []
                  · rfl
                  · intro vs; rfl
                  · intro vs w1 hK hS _ K hKK
                    go_simp
                    refine (HLB w1).mono ?_
                    rintro e w2 ⟨rfl, hu2⟩
                    exact hKK.out _ hu2
                  simp only [Act.put, List.setIfInBounds_toArray, List.set_cons_zero, List.set_cons_succ, Nat.reduceAdd]
                  iterate 1 (apply Rg.RK.gok (t := 136); (· intro vs w1 hS; go_simp; with_reducible rfl); (· rfl); (· intro vs; rfl); simp only [Act.put, List.setIfInBounds_toArray, List.set_cons_zero, List.set_cons_succ, Nat.reduceAdd])
                  iterate 1 (apply Rg.RK.ok; (· intro vs w1 hS; go_simp; with_reducible rfl); (· rfl); simp only [Act.put, List.setIfInBounds_toArray, List.set_cons_zero, List.set_cons_succ, Nat.reduceAdd])
                  apply Rg.RK.fin []
                  intro vs w1 hK hS _
                  refine hQN.out _ _ ?_
                  clear hQN
                  obtain ⟨-, hK1, hu1⟩ := hS
                  have hH1 := hH.up hu1
                  have hG1 := blk_up hu1 hG
                  have hI1 := own_up hI hu1
                  clear hK hS21 hH hG hI HLA HLB hKr hu1
                  generalize w1 = w2 at *
                  have hgs2 : gw + 1 ≤ w2.heap.size := (Array.getElem?_eq_some_iff.1 hG1).1
                  obtain ⟨⟨u0, u1, u2, u3, u4⟩, -⟩ := HCC.out w2 hK1
                  go_wp2_with (at_builtin; refine wpList_append_rd _ itemsT (news := itcs [y]) (World.ownsRow.alloc hI1 _) (Rd.ilit_at _ [y] _ _ (by simp) rfl) (itcs_one _) (by simp; omega) (by simp; omega) (by simp; omega) rfl rfl rfl rfl ?_; intro v6 wA hown6 hg6 hat6; obtain ⟨QA, qcA, rfl⟩ := own_form hown6
                               have hI2 := World.ownsRow.alloc hI1 (.cells #[.int .i64 y.s.toInt, .int .i64 y.k.toInt, .int .u64 (y.t.toNat : Int), .int .u64 (y.v.toNat : Int), .int .i64 y.x.toInt] 37)
                               have hKo := keeps_grown hI2 hg6 (X := Rg.ob (.slice Q j qc)) (fun g hg => hg)
                               have hu2 : Up w2 (w2.alloc (.cells #[.int .i64 y.s.toInt, .int .i64 y.k.toInt, .int .u64 (y.t.toNat : Int), .int .u64 (y.v.toNat : Int), .int .i64 y.x.toInt] 37)) := (Up.refl w2).alloc _
                               have hKA := keeps_ob (KeepsT hK1 (Rg.Keeps.of_up hu2)) hI2 hKo (by have := HGW.out; omega)
                               obtain ⟨⟨u0, u1, u2, u3, u4⟩, -⟩ := HCC.out wA hKA)
                  have hHA := (hH1.up hu2).own hI2 hKo
                  have hGA : wA.heap[gw]? = some (.cells #[.int .i64 wv.s.toInt, .int .i64 wv.k.toInt, .int .u64 (wv.t.toNat : Int), .int .u64 (wv.v.toNat : Int), .int .i64 wv.x.toInt] 37 (0, 0)) := (ob_base hI2 hKo (Nat.lt_succ_self gw) (by simp; omega)).trans (blk_up hu2 hG1)
                  have hIA : OwnI wA (gw + 1) QA (j + 1) qcA (rangeL (q.take (k + 1)) fr tq) := by
                    unfold OwnI
                    rw [HSK.out, itcs_append]
                    exact hown6
                  have hjA : j + 1 ≤ k + 1 := by omega
                  clear hH1 hG1 hI1 hI2 hKo hu2 hown6 hg6 hat6 hgs2 HSK hK1 u0 u1 u2 u3 u4
                  have hS23 := fun W (h : Up wA W) => And.intro (HCC.out W (KeepsT hKA (Rg.Keeps.of_up h))) (And.intro (KeepsT hKA (Rg.Keeps.of_up h)) h)
                  by_cases hsm : sameB y x = true
                  · have HSM := fun W => rsame_any y x W
                    simp only [hsm] at HSM
                    have hFB : Hid (FndS (q.take (k + 1)) x true y) := by
                      show FndS _ _ _ _
                      rw [HTK.out]
                      exact FndS.hit (makeE_ok HE.out).2.1 hkq HYK.out hF.out hsm
                    clear hF
                    go_wp2_with fail
                    apply Rg.region_up _ (by kernel_rfl) (by kernel_rfl) hS23
                    · intro QN hQN
                      iterate 5 (apply Rg.RK.ok; (· intro vs w1 hS; go_simp; with_reducible rfl); (· rfl); simp only [Act.put, List.setIfInBounds_toArray, List.set_cons_zero, List.set_cons_succ, Nat.reduceAdd])
                      apply Rg.RK.call (.bool true) []
                      · rfl
                      · intro vs w1 hK hS _ K hKK
                        go_simp
                        refine (HSM w1).mono ?_
                        rintro e w2 ⟨rfl, hu2⟩
                        exact hKK.out _ hu2
                      simp only [Act.put, List.setIfInBounds_toArray, List.set_cons_zero, List.set_cons_succ, Nat.reduceAdd]
                      apply Rg.RK.fin []
                      intro vs w1 hK hS _
                      refine hQN.out _ _ ?_
                      clear hQN
                      obtain ⟨⟨⟨u0, u1, u2, u3, u4⟩, -⟩, hK1, hu1⟩ := hS
                      have hH1 := hHA.up hu1
                      have hG1 := blk_up hu1 hGA
                      have hI1 := own_up hIA hu1
                      clear hK hS23 hHA hGA hIA HSM hKA hu1
                      generalize w1 = w2 at *
                      go_wp2_with (first
                        | (with_reducible show wpList _ _ _ (⟨none, .store 37 _ _, _, _, _, none⟩ :: _) _ _
                           go_loud (refine wpList_store_it5 rfl _ _ rfl (g := gw) (z0 := .int .i64 y.s.toInt) (z1 := .int .i64 y.k.toInt) (z2 := .int .u64 (y.t.toNat : Int)) (z3 := .int .u64 (y.v.toNat : Int)) (z4 := .int .i64 y.x.toInt) (by kernel_rfl) (by kernel_rfl) hG1 (by simp [Value.oneCell']) ?_)
                           intro w5 hG5 hbut
                           have hK5 := keeps_wb hK1 hbut hgwb
                           have hH5 := hH1.keeps hbut (by omega) (Nat.lt_succ_self gw)
                           have hI5 := OwnI.keeps hI1 hbut (fun k hk e => by have e' : k = gw := e; omega)
                           clear hbut hG1 hK1 hH1 hI1 u0 u1 u2 u3 u4
                           obtain ⟨⟨u0, u1, u2, u3, u4⟩, -⟩ := HCC.out w5 hK5))
                      have hgsz : gw + 1 ≤ (w5).heap.size := (Array.getElem?_eq_some_iff.1 hG5).1
                      refine (tmay_x hH5 (HK.out _ hK5).2.2.2.2 hgsz hym).mono ?_
                      rintro e w9 ⟨rfl, hH9, hK9⟩
                      obtain ⟨d9, f9, hd9⟩ := (hH5).head
                      have hI9 := OwnI.other hI5 hd9 hK9
                      have hG9 := (hK9.block gw hgsz (by show ¬ gw = g; omega)).trans hG5
                      have hK10 := KeepsT hK5 hK9
                      clear hd9 hgsz hH5 hG5 hI5 hK5 hK9
                      go_wp2_with fail
                      go_roundw
                      case rel => exact ⟨k + 1, j + 1, QA, qcA, true, y, by go_num, rfl, rfl, by omega, hK10, hH9, hG9, hI9, hFB⟩
                      case measure => simp [intOf]; omega
                    · kernel_rfl
                  · rw [Bool.not_eq_true] at hsm
                    have HSM := fun W => rsame_any y x W
                    simp only [hsm] at HSM
                    have hFB : Hid (FndS (q.take (k + 1)) x isB wv) := by
                      show FndS _ _ _ _
                      rw [HTK.out]
                      exact FndS.skip hF.out hsm
                    clear hF
                    go_wp2_with fail
                    apply Rg.region_up _ (by kernel_rfl) (by kernel_rfl) hS23
                    · intro QN hQN
                      iterate 5 (apply Rg.RK.ok; (· intro vs w1 hS; go_simp; with_reducible rfl); (· rfl); simp only [Act.put, List.setIfInBounds_toArray, List.set_cons_zero, List.set_cons_succ, Nat.reduceAdd])
                      apply Rg.RK.call (.bool false) []
                      · rfl
                      · intro vs w1 hK hS _ K hKK
                        go_simp
                        refine (HSM w1).mono ?_
                        rintro e w2 ⟨rfl, hu2⟩
                        exact hKK.out _ hu2
                      simp only [Act.put, List.setIfInBounds_toArray, List.set_cons_zero, List.set_cons_succ, Nat.reduceAdd]
                      apply Rg.RK.fin []
                      intro vs w1 hK hS _
                      refine hQN.out _ _ ?_
                      clear hQN
                      obtain ⟨⟨⟨u0, u1, u2, u3, u4⟩, -⟩, hK5, hu1⟩ := hS
                      have hH5 := hHA.up hu1
                      have hG5 := blk_up hu1 hGA
                      have hI5 := own_up hIA hu1
                      clear hK hS23 hHA hGA hIA HSM hKA hu1
                      generalize w1 = w5 at *
                      go_wp2_with fail
                      have hgsz : gw + 1 ≤ (w5).heap.size := (Array.getElem?_eq_some_iff.1 hG5).1
                      refine (tmay_x hH5 (HK.out _ hK5).2.2.2.2 hgsz hym).mono ?_
                      rintro e w9 ⟨rfl, hH9, hK9⟩
                      obtain ⟨d9, f9, hd9⟩ := (hH5).head
                      have hI9 := OwnI.other hI5 hd9 hK9
                      have hG9 := (hK9.block gw hgsz (by show ¬ gw = g; omega)).trans hG5
                      have hK10 := KeepsT hK5 hK9
                      clear hd9 hgsz hH5 hG5 hI5 hK5 hK9
                      go_wp2_with fail
                      go_roundw
                      case rel => exact ⟨k + 1, j + 1, QA, qcA, isB, wv, by go_num, rfl, rfl, by omega, hK10, hH9, hG9, hI9, hFB⟩
                      case measure => simp [intOf]; omega
                    · kernel_rfl
                · kernel_rfl
          · have i1 : ¬ (k : Int) < (rn : Int) := by omega
            obtain rfl : k = rn := by omega
            have hall : q.take k = q := List.take_of_length_le (by have := HQL.out; omega)
            rw [hall] at hI hF
            have HF := Lib.hid hF.out
            rcases hF.out with ⟨h1, rfl, rfl⟩ | ⟨h1, rfl⟩
            · replace hG : wr.heap[gw]? = some (.cells #[.int .i64 0, .int .i64 0, .int .u64 0, .int .u64 0, .int .i64 0] 37 (0, 0)) := hG
              obtain ⟨f1, f2, f3, f4, f5⟩ := HK.out wr hKr
              obtain ⟨dd, ff, hd⟩ := hH.head
              obtain ⟨⟨x0, x1, x2, x3, x4⟩, -⟩ := And.intro (And.intro (blk_cell f1 0) (And.intro (blk_cell f1 1) (And.intro (blk_cell f1 2) (And.intro (blk_cell f1 3) (blk_cell f1 4))))) trivial
              simp only [List.getElem?_toArray, List.getElem?_cons_zero, List.getElem?_cons_succ] at x0 x1 x2 x3 x4
              have HG := Lib.hid (tget_none hd f5 h1)
              have hgsz : gw < wr.heap.size := (Array.getElem?_eq_some_iff.1 hG).1
              have hupw : Up w wr := keepsUpX hupb hgw5 hKr
              clear f1 hF
              go_wp2_with fail
              refine HG.out.mono ?_
              rintro e w30 ⟨rfl, hu30⟩
              obtain ⟨w31, hw31⟩ : ∃ w31, w31 = w30.alloc (.cells #[.int .i64 0, .int .i64 0, .int .u64 0, .int .u64 0, .int .i64 0] 37) := ⟨_, rfl⟩
              have hu31 : Up wr w31 := by rw [hw31]; exact hu30.alloc _
              have hb31 : w31.heap[w30.heap.size]? = some (.cells #[.int .i64 0, .int .i64 0, .int .u64 0, .int .u64 0, .int .i64 0] 37 (0, 0)) := by rw [hw31]; exact heap_alloc_new w30 _
              have hg31 := blk_up hu31 hG
              have hF31 := blk_up hu31 f2
              have hT31 := blk_up hu31 f3
              have hI31 := own_up hI hu31
              have HRG := Lib.hid (trange_x (blk_up hu31 hd) (f5.up hu31) fr tq)
              have hup31 := hupw.trans hu31
              have HW31 := Lib.hid hw31
              have b0 := blk_cell hb31 0
              have b1 := blk_cell hb31 1
              have b2 := blk_cell hb31 2
              have b3 := blk_cell hb31 3
              have b4 := blk_cell hb31 4
              have c0 := blk_cell hg31 0
              have c1 := blk_cell hg31 1
              have c2' := blk_cell hg31 2
              have c3 := blk_cell hg31 3
              have c4 := blk_cell hg31 4
              have p0 := blk_cell hF31 0
              have p1 := blk_cell hF31 1
              have p2 := blk_cell hF31 2
              have p3 := blk_cell hF31 3
              have p4 := blk_cell hF31 4
              have r0 := blk_cell hT31 0
              have r1 := blk_cell hT31 1
              have r2 := blk_cell hT31 2
              have r3 := blk_cell hT31 3
              have r4 := blk_cell hT31 4
              simp only [List.getElem?_toArray, List.getElem?_cons_zero, List.getElem?_cons_succ] at b0 b1 b2 b3 b4 c0 c1 c2' c3 c4 p0 p1 p2 p3 p4 r0 r1 r2 r3 r4
              rw [HW31.out] at b0 b1 b2 b3 b4 c0 c1 c2' c3 c4 p0 p1 p2 p3 p4 r0 r1 r2 r3 r4
              clear HG hu30 hw31 hu31 hb31 hg31 hF31 hT31 hI hG f2 f3 f4 f5 hd hH hKr hupw x0 x1 x2 x3 x4
              go_wp2_with fail
              rw [← HW31.out]
              refine HRG.out.mono ?_
              rintro e w32 ⟨A32, n32, rfl, hr32, -, hu32⟩
              have hj32 := hr32.ilen
              have hrl := rangeL_len q fr tq
              have HJ := Lib.hid hj32
              have hI32 := own_up hI31 hu32
              have hqq : q.length ≤ 150 := by have := HQL.out; omega
              have hEQ := requal_any A32 n32 n32 _ Q j qc _ w32 hr32 (Rd.own hI32) (by have := HJ.out; omega) (by omega)
              rw [show decide (rangeL q fr tq = rangeL q fr tq) = true by simp] at hEQ
              have HEQ := Lib.hid hEQ
              clear hEQ
              clear hj32 hrl b0 b1 b2 b3 b4 c0 c1 c2' c3 c4 p0 p1 p2 p3 p4 r0 r1 r2 r3 r4 HRG hI31 hI32 hr32
              go_wp2_with fail
              refine HEQ.out.mono ?_
              rintro e w33 ⟨rfl, hu33⟩
              go_wp2_with fail
              refine (awake12_any w33).mono ?_
              rintro e w34 ⟨rfl, hu34⟩
              go_wp2_with fail
              go_ret
              exact ⟨rfl, ((hup31.trans hu32).trans hu33).trans hu34⟩
            · replace hG : wr.heap[gw]? = some (.cells #[.int .i64 wv.s.toInt, .int .i64 wv.k.toInt, .int .u64 (wv.t.toNat : Int), .int .u64 (wv.v.toNat : Int), .int .i64 wv.x.toInt] 37 (0, 0)) := hG
              obtain ⟨f1, f2, f3, f4, f5⟩ := HK.out wr hKr
              obtain ⟨dd, ff, hd⟩ := hH.head
              obtain ⟨⟨x0, x1, x2, x3, x4⟩, -⟩ := And.intro (And.intro (blk_cell f1 0) (And.intro (blk_cell f1 1) (And.intro (blk_cell f1 2) (And.intro (blk_cell f1 3) (blk_cell f1 4))))) trivial
              simp only [List.getElem?_toArray, List.getElem?_cons_zero, List.getElem?_cons_succ] at x0 x1 x2 x3 x4
              have HG := Lib.hid (tget_some hd f5 h1)
              have hgsz : gw < wr.heap.size := (Array.getElem?_eq_some_iff.1 hG).1
              have hupw : Up w wr := keepsUpX hupb hgw5 hKr
              clear f1 hF
              go_wp2_with fail
              refine HG.out.mono ?_
              rintro e w30 ⟨rfl, hu30⟩
              obtain ⟨w31, hw31⟩ : ∃ w31, w31 = w30.alloc (.cells #[.int .i64 wv.s.toInt, .int .i64 wv.k.toInt, .int .u64 (wv.t.toNat : Int), .int .u64 (wv.v.toNat : Int), .int .i64 wv.x.toInt] 37) := ⟨_, rfl⟩
              have hu31 : Up wr w31 := by rw [hw31]; exact hu30.alloc _
              have hb31 : w31.heap[w30.heap.size]? = some (.cells #[.int .i64 wv.s.toInt, .int .i64 wv.k.toInt, .int .u64 (wv.t.toNat : Int), .int .u64 (wv.v.toNat : Int), .int .i64 wv.x.toInt] 37 (0, 0)) := by rw [hw31]; exact heap_alloc_new w30 _
              have hg31 := blk_up hu31 hG
              have hF31 := blk_up hu31 f2
              have hT31 := blk_up hu31 f3
              have hI31 := own_up hI hu31
              have HRG := Lib.hid (trange_x (blk_up hu31 hd) (f5.up hu31) fr tq)
              have hup31 := hupw.trans hu31
              have HW31 := Lib.hid hw31
              have b0 := blk_cell hb31 0
              have b1 := blk_cell hb31 1
              have b2 := blk_cell hb31 2
              have b3 := blk_cell hb31 3
              have b4 := blk_cell hb31 4
              have c0 := blk_cell hg31 0
              have c1 := blk_cell hg31 1
              have c2' := blk_cell hg31 2
              have c3 := blk_cell hg31 3
              have c4 := blk_cell hg31 4
              have p0 := blk_cell hF31 0
              have p1 := blk_cell hF31 1
              have p2 := blk_cell hF31 2
              have p3 := blk_cell hF31 3
              have p4 := blk_cell hF31 4
              have r0 := blk_cell hT31 0
              have r1 := blk_cell hT31 1
              have r2 := blk_cell hT31 2
              have r3 := blk_cell hT31 3
              have r4 := blk_cell hT31 4
              simp only [List.getElem?_toArray, List.getElem?_cons_zero, List.getElem?_cons_succ] at b0 b1 b2 b3 b4 c0 c1 c2' c3 c4 p0 p1 p2 p3 p4 r0 r1 r2 r3 r4
              rw [HW31.out] at b0 b1 b2 b3 b4 c0 c1 c2' c3 c4 p0 p1 p2 p3 p4 r0 r1 r2 r3 r4
              clear HG hu30 hw31 hu31 hb31 hg31 hF31 hT31 hI hG f2 f3 f4 f5 hd hH hKr hupw x0 x1 x2 x3 x4
              go_wp2_with fail
              rw [← HW31.out]
              refine HRG.out.mono ?_
              rintro e w32 ⟨A32, n32, rfl, hr32, -, hu32⟩
              have hj32 := hr32.ilen
              have hrl := rangeL_len q fr tq
              have HJ := Lib.hid hj32
              have hI32 := own_up hI31 hu32
              have hqq : q.length ≤ 150 := by have := HQL.out; omega
              have hEQ := requal_any A32 n32 n32 _ Q j qc _ w32 hr32 (Rd.own hI32) (by have := HJ.out; omega) (by omega)
              rw [show decide (rangeL q fr tq = rangeL q fr tq) = true by simp] at hEQ
              have HEQ := Lib.hid hEQ
              clear hEQ
              clear hj32 hrl b0 b1 b2 b3 b4 c0 c1 c2' c3 c4 p0 p1 p2 p3 p4 r0 r1 r2 r3 r4 HRG hI31 hI32 hr32
              go_wp2_with fail
              refine HEQ.out.mono ?_
              rintro e w33 ⟨rfl, hu33⟩
              go_wp2_with fail
              refine (awake12_any w33).mono ?_
              rintro e w34 ⟨rfl, hu34⟩
              go_wp2_with fail
              go_ret
              exact ⟨rfl, ((hup31.trans hu32).trans hu33).trans hu34⟩
      · kernel_rfl
  · kernel_rfl
end Go.Proofs.YtfmjgkfblejknaaGreat.tableTells

/-
  'clepsydra/clepsydralaw12.TableTells': for every input the law returns true; each argument reads behind the call as it read before. No condition.
-/
namespace Go.Proofs.YtfmjgkfblejknaaGreat.tableTells
open Go.ChangeShapes Go.WideShapes Go.ChangeAt Go.RowKit
open Go.ChangeMaps (open_string shut_string)
set_option linter.unusedVariables false

set_option maxRecDepth 100000 in
theorem lifted (os : Os) (started : os.Started) (H : Type) (enc : TypeId × Value → H) :
    ReturnsInHanded {} Tryz.checked os 5 .any (Rows.tableTellsSpec.pre6 enc Tryz.prog Tryz.f5 Rows.tableTellsRow.domain false) (Rows.tableTellsSpec.post enc Tryz.prog Tryz.f5 false true false false) := by
  refine returnsInHanded_of_change (C := Tryz.checked) prog_own started (by kernel_rfl) Tryz.func5
    (ChangeSpec.witness6 (enc := enc) (C := Tryz.checked) false ⟨#[], #[.slice none 0 0, .agg #[.int .i64 0, .int .i64 0, .int .u64 0, .int .u64 0, .int .i64 0], .agg #[.int .i64 0, .int .i64 0, .int .u64 0, .int .u64 0, .int .i64 0], .agg #[.int .i64 0, .int .i64 0, .int .u64 0, .int .u64 0, .int .i64 0]], []⟩ 8 (by kernel_rfl) (by kernel_rfl) (by kernel_rfl) (by kernel_rfl)) ?_
  intro W base args ds gs before hval0 hW hcnd _
  have hval : ∀ (j : Nat) t v, Tryz.f5.params[j]? = some t → args[j]? = some v → Value.okWide Tryz.prog W .any base t v := hval0
  have hW' := hW
  obtain ⟨p, q, hA0, hV, rfl, hfz, hnd⟩ := hW
  have hA : DataW.TrodAll enc Tryz.prog W 0 (fun _ => true) true Tryz.f5.params.toList args.toList ds p := hA0
  rw [Tryz.params5] at hA hval
  obtain ⟨v0, vs0, d0, ds0, p0, q0, hargs, rfl, rfl, h0, r0⟩ := trodAll_cons hA
  obtain ⟨v1, vs1, d1, ds1, p1, q1, rfl, rfl, rfl, h1, r1⟩ := trodAll_cons r0
  obtain ⟨v2, vs2, d2, ds2, p2, q2, rfl, rfl, rfl, h2, r2⟩ := trodAll_cons r1
  obtain ⟨v3, vs3, d3, ds3, p3, q3, rfl, rfl, rfl, h3, r3⟩ := trodAll_cons r2
  obtain ⟨rfl, rfl, rfl⟩ := trodAll_nil r3
  obtain rfl : args = #[v0, v1, v2, v3] := by cases args; simp_all
  obtain ⟨rfl, rfl⟩ := trodVars_none hV
  obtain ⟨a0, len0, cap0, rfl⟩ := okWide_slice Tryz.underlying23 (hval 0 23 v0 rfl rfl)
  have k0 := h0
  have lt0 : ∀ x ∈ p0, x.block < W.heap.size := by obtain ⟨m, hm⟩ := k0; exact DataW.trod_lt m _ _ _ hm
  obtain ⟨l0, w0⟩ := is_i h0
  have k1 := h1
  have lt1 : ∀ x ∈ p1, x.block < W.heap.size := by obtain ⟨m, hm⟩ := k1; exact DataW.trod_lt m _ _ _ hm
  obtain ⟨a1, rfl⟩ := is_item (hval 1 37 v1 rfl rfl) h1
  have k2 := h2
  have lt2 : ∀ x ∈ p2, x.block < W.heap.size := by obtain ⟨m, hm⟩ := k2; exact DataW.trod_lt m _ _ _ hm
  obtain ⟨a2, rfl⟩ := is_item (hval 2 37 v2 rfl rfl) h2
  have k3 := h3
  have lt3 : ∀ x ∈ p3, x.block < W.heap.size := by obtain ⟨m, hm⟩ := k3; exact DataW.trod_lt m _ _ _ hm
  obtain ⟨a3, rfl⟩ := is_item (hval 3 37 v3 rfl rfl) h3
  clear hA0 hval0
  refine (law_any a0 len0 cap0 l0 a1 a2 a3 W w0).mono fun e W' ⟨he, bel⟩ => ?_
  subst he
  exact ⟨_, rfl, _, _, _, [], _, [], hW', trodAll_mk1 (shut_bool Tryz.underlying4 _), (trodAll_cons_mk (Below.trod laidOut (by kernel_rfl) (of_decide_eq_true (by kernel_rfl)) k0 bel lt0) (trodAll_cons_mk (Below.trod laidOut (by kernel_rfl) (of_decide_eq_true (by kernel_rfl)) k1 bel lt1) (trodAll_cons_mk (Below.trod laidOut (by kernel_rfl) (of_decide_eq_true (by kernel_rfl)) k2 bel lt2) (trodAll_cons_mk (Below.trod laidOut (by kernel_rfl) (of_decide_eq_true (by kernel_rfl)) k3 bel lt3) trodAll_mk0)))), rfl, bel.frame _, fun h => by cases h⟩

theorem proved : Rows.TableTellsSaid :=
  OpenClaim.holds_of_wide 5 Tryz.f5 rfl rfl rfl rfl rfl rfl rfl ⟨rfl, rfl, rfl, rfl, rfl⟩ rfl rfl rfl rfl rfl (by kernel_rfl) Tryz.func5 (by kernel_rfl)
    (of_decide_eq_true (by kernel_rfl)) (by unfold Func.isWrapper; first | (rw [if_pos (by decide +kernel)]; kernel_rfl) | (rw [if_neg (by decide +kernel)]; exact ⟨rfl, rfl⟩))
    (fun os started H enc _ => lifted os started H enc)
#print axioms proved
end Go.Proofs.YtfmjgkfblejknaaGreat.tableTells
