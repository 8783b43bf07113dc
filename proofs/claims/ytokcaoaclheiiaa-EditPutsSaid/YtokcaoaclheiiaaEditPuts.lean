/-
  The law EditPuts: the walk.
-/
import Derived.Test.YtokcaoaclheiiaaEditW14
import Derived.Test.YtokcaoaclheiiaaEditW11
import Derived.Test.YtokcaoaclheiiaaEditLaw2
import Derived.Test.YtokcaoaclheiiaaEditW6
import Derived.Test.YtokcaoaclheiiaaOpenEd
import Derived.Test.YtokcaoaclheiiaaOpen
import Derived.Test.YtokcaoaclheiiaaConv
namespace Go.Proofs.Ytokcaoaclheiiaa.editPuts
open Go.RowKit
set_option linter.unusedVariables false
set_option linter.unusedSimpArgs false

theorem frame_body (k : Int) (l : List UInt8) : (((frameB k l).drop 8).take l.length) = l := by
  have h1 : (sealB (headB k l.length)).length = 8 := by rw [sealB_len]; simp [headB]
  have h2 : (frameB k l).drop 8 = sealB l := by
    unfold frameB
    rw [← h1, List.drop_left]
  rw [h2]
  unfold sealB
  exact List.take_left
theorem filesB_le : ∀ (l : List Fl), (∀ x ∈ l, fileOk x = true) → (filesB l).length ≤ 20 * l.length
  | [], _ => by simp [filesB]
  | x :: l, h => by
    have hx := fileOk_b (h x List.mem_cons_self)
    have h1 := numB_ten (n := x.1.toNat) (by omega)
    have h2 := numB_ten (n := x.2.toNat) (by omega)
    have h3 := filesB_le l fun y hy => h y (List.mem_cons_of_mem _ hy)
    simp only [filesB, List.flatMap_cons, List.length_append, List.length_cons] at *
    omega
theorem editB_le {ds : List Int} {add : List Fl} {lg : Int} {f ce at_ le : Nat} (hm : mayE ds add lg f ce at_ le = true) : (editB ds add lg f ce at_ le).length ≤ 2000 := by
  simp only [mayE, Bool.and_eq_true, decide_eq_true_eq, List.all_cons, List.all_nil, verOk, Bool.and_true] at hm
  obtain ⟨m1, m2, m3, m4, ⟨m5a, m5b, m5c, m5d⟩, m6, m7⟩ := hm
  have h1 := listB_len (dq ds) (by rw [dq_len]; omega)
  rw [dq_len] at h1
  have h2 := filesB_le add (List.all_eq_true.1 m7)
  have h3 := numB_ten (n := add.length) (by omega)
  have h4 := numsL_len [lg.toNat, f, ce, at_, le] (by intro x hx; simp only [List.mem_cons, List.not_mem_nil, or_false] at hx; omega)
  simp only [List.length_cons, List.length_nil] at h4
  unfold editB
  simp only [List.length_append]
  omega
set_option maxRecDepth 100000 in
set_option maxHeartbeats 16000000 in
theorem law_any (B : Option Addr) (n c : Nat) (bs : List UInt8) (e : EdV) (w : World) (h0 : IsB w B n c bs) (h1 : IsEd w e) :
    Calls Try.prog 6 #[.slice B n c, .agg e.cs.toArray] w fun e w' => e = .returned (.bool true) ∧ Up w w' := by
  obtain ⟨D, dn, dc, ds, A, an, ac, add, lg, f, ce, at_, le⟩ := e
  obtain ⟨rd, dc1, dc2, ra, ac1, ac2, zl, z1, z2, z3, z4⟩ := h1
  obtain ⟨hb, hnc, -⟩ := h0
  (try dsimp only at rd dc1 dc2 ra ac1 ac2 zl z1 z2 z3 z4)
  have HN := Lib.hid hb.blen
  show Calls Try.prog 6 #[.slice B n c, .agg #[.slice D dn dc, .slice A an ac, .int .i64 lg, .int .u64 (f : Int), .int .u64 (ce : Int), .int .u64 (at_ : Int), .int .u64 (le : Int)]] w _
  obtain ⟨w1, hw1⟩ : ∃ w1, w1 = w.alloc (.cells #[.slice D dn dc, .slice A an ac, .int .i64 lg, .int .u64 (f : Int), .int .u64 (ce : Int), .int .u64 (at_ : Int), .int .u64 (le : Int)] 32) := ⟨_, rfl⟩
  have hup1 : Up w w1 := by rw [hw1]; exact (Up.refl w).alloc _
  have hb1 : w1.heap[w.heap.size]? = some (.cells #[.slice D dn dc, .slice A an ac, .int .i64 lg, .int .u64 (f : Int), .int .u64 (ce : Int), .int .u64 (at_ : Int), .int .u64 (le : Int)] 32 (0, 0)) := by rw [hw1]; exact heap_alloc_new w _
  have HW := Lib.hid hw1
  clear hw1
  have rd1 := rd.up hup1
  have ra1 := ra.up hup1
  have hbb1 := hb.up hup1
  clear rd ra hb
  obtain ⟨mm, hmm⟩ : ∃ x, x = mayE ds add lg f ce at_ le := ⟨_, rfl⟩
  have HM := Lib.hid hmm
  clear hmm
  by_cases g0 : 1000 < n
  · have g0i : (1000 : Int) < (n : Int) := by omega
    go_enter Try.func6, Try.ntmps6
    go_wp2_with fail
    rw [← HW.out]
    go_wp2_with (go_at_call 11; with_reducible refine (awake15_any _).mono ?_; rintro e w4 ⟨rfl, hu4⟩)
    go_ret
    exact ⟨rfl, hup1.trans hu4⟩
  have g0i : ¬ (1000 : Int) < (n : Int) := by omega
  have q0 := blk_cell hb1 0
  have q1 := blk_cell hb1 1
  have q2 := blk_cell hb1 2
  have q3 := blk_cell hb1 3
  have q4 := blk_cell hb1 4
  have q5 := blk_cell hb1 5
  have q6 := blk_cell hb1 6
  go_enter Try.func6, Try.ntmps6
  go_wp2_with fail
  rw [← HW.out]
  clear HW
  generalize w.heap.size = g at hb1 q0 q1 q2 q3 q4 q5 q6 ⊢
  go_wp2_with fail
  refine (few_any D dn dc A an ac lg f ce at_ le w1).mono ?_
  rintro e w2 ⟨rfl, hu2⟩
  have hb2 := (hu2.block _ (Array.getElem?_eq_some_iff.1 hb1).1).trans hb1
  have rd2 := rd1.up hu2
  have ra2 := ra1.up hu2
  have hbb2 := hbb1.up hu2
  have hup2 := hup1.trans hu2
  clear q0 q1 q2 q3 q4 q5 q6 hb1 rd1 ra1 hbb1 hup1 hu2
  by_cases hf : dn ≤ 60 ∧ an ≤ 60
  · have hfd : decide (dn ≤ 60 ∧ an ≤ 60) = true := by simp [hf]
    rw [hfd]
    obtain ⟨hf1, hf2⟩ := hf
    clear hfd
    have q0 := blk_cell hb2 0
    have q1 := blk_cell hb2 1
    have q2 := blk_cell hb2 2
    have q3 := blk_cell hb2 3
    have q4 := blk_cell hb2 4
    have q5 := blk_cell hb2 5
    have q6 := blk_cell hb2 6
    go_wp2_with fail
    refine (eput_any B n c bs D dn dc ds A an ac add lg f ce at_ le w2 hbb2 (by omega) rd2 (by omega) ra2 (by omega)).mono ?_
    intro e w3 hp
    rw [← HM.out] at hp
    have hbl3 : ∀ W, Up w2 W → W.heap[g]? = some (.cells #[.slice D dn dc, .slice A an ac, .int .i64 lg, .int .u64 (f : Int), .int .u64 (ce : Int), .int .u64 (at_ : Int), .int .u64 (le : Int)] 32 (0, 0)) := fun W hu => (hu.block _ (Array.getElem?_eq_some_iff.1 hb2).1).trans hb2
    have HBL := Lib.hid hbl3
    clear q0 q1 q2 q3 q4 q5 q6 hb2 hbl3
    rcases hp with ⟨hm0, rfl, hu3⟩ | ⟨hm1, A1, n1, c1, rfl, ho1, hu3⟩
    · have q0 := blk_cell (HBL.out w3 hu3) 0
      have q1 := blk_cell (HBL.out w3 hu3) 1
      have q2 := blk_cell (HBL.out w3 hu3) 2
      have q3 := blk_cell (HBL.out w3 hu3) 3
      have q4 := blk_cell (HBL.out w3 hu3) 4
      have q5 := blk_cell (HBL.out w3 hu3) 5
      have q6 := blk_cell (HBL.out w3 hu3) 6
      go_wp2_with fail
      refine (rmay_any D dn dc ds A an ac add lg f ce at_ le w3 (rd2.up hu3) (by omega) (ra2.up hu3) (by omega)).mono ?_
      rintro e w4 ⟨rfl, hu4⟩
      rw [← HM.out, hm0]
      clear q0 q1 q2 q3 q4 q5 q6
      go_wp2_with (go_at_call 11; with_reducible refine (awake15_any _).mono ?_; rintro e w5 ⟨rfl, hu5⟩)
      go_ret
      exact ⟨rfl, ((hup2.trans hu3).trans hu4).trans hu5⟩
    · have q0 := blk_cell (HBL.out w3 hu3) 0
      have q1 := blk_cell (HBL.out w3 hu3) 1
      have q2 := blk_cell (HBL.out w3 hu3) 2
      have q3 := blk_cell (HBL.out w3 hu3) 3
      have q4 := blk_cell (HBL.out w3 hu3) 4
      have q5 := blk_cell (HBL.out w3 hu3) 5
      have q6 := blk_cell (HBL.out w3 hu3) 6
      go_wp2_with fail
      refine (rmay_any D dn dc ds A an ac add lg f ce at_ le w3 (rd2.up hu3) (by omega) (ra2.up hu3) (by omega)).mono ?_
      rintro e w4 ⟨rfl, hu4⟩
      rw [← HM.out, hm1]
      have hu24 := hu3.trans hu4
      have hx4 := ho1.rd.up hu4
      clear q0 q1 q2 q3 q4 q5 q6
      have q0 := blk_cell (HBL.out w4 hu24) 0
      have q1 := blk_cell (HBL.out w4 hu24) 1
      have q2 := blk_cell (HBL.out w4 hu24) 2
      have q3 := blk_cell (HBL.out w4 hu24) 3
      have q4 := blk_cell (HBL.out w4 hu24) 4
      have q5 := blk_cell (HBL.out w4 hu24) 5
      have q6 := blk_cell (HBL.out w4 hu24) 6
      clear ho1
      go_wp2_with fail
      refine (redit_any D dn dc ds A an ac add lg f ce at_ le w4 (rd2.up hu24) (by omega) (ra2.up hu24) (by omega) (HM.out.symm.trans hm1)).mono ?_
      rintro e w5 ⟨rfl, hu5⟩
      have hu25 := hu24.trans hu5
      have hx5 := hx4.up hu5
      have hRE := readE_editB (HM.out.symm.trans hm1)
      have hfb := frame_body 6 (editB ds add lg f ce at_ le)
      have hfl := frameB_len 6 (editB ds add lg f ce at_ le)
      obtain ⟨T, hT⟩ : ∃ x, x = frameB 6 (editB ds add lg f ce at_ le) := ⟨_, rfl⟩
      rw [← hT] at hfb hfl hx5 ⊢
      obtain ⟨E, hE⟩ : ∃ x, x = editB ds add lg f ce at_ le := ⟨_, rfl⟩
      rw [← hE] at hfb hfl hRE
      have hE0 := hE
      clear hT hE hx4 q0 q1 q2 q3 q4 q5 q6
      have hEl : E.length ≤ 2000 := by rw [hE0]; exact editB_le (HM.out.symm.trans hm1)
      obtain ⟨c6, w6, hconv, hcap, hrd6, hu6, -, -⟩ := conv_b w5 T
      have HRE := Lib.hid hRE
      have HFB := Lib.hid hfb
      have hTl : T.length = E.length + 12 := hfl
      clear hRE hfb hfl hE0
      generalize hTn : T.length = tn at *
      have htn : tn = E.length + 12 := hTl
      have hcut := fun W => cut_lh_b W (some ⟨w5.heap.size, 0, none⟩) tn c6 .i64 .i64 8 ((tn : Int) - 4) (by omega) (by omega) (by omega)
      have tw : IntKind.i64.wrap ((tn : Int) - 4) = (tn : Int) - 4 := IntWalk.i64_in _ (by omega)
      have hcat : ∀ W, (Op.stringOp .add (tx bs) (tx T)).run Try.prog W = .ok (.string (tx (cc bs T))) W := fun W => by
        exact (run_string_add_sum W (tx bs) (tx T) (by rw [tx_size, tx_size, ← HN.out, hTn]; omega)).trans (by rw [tx_append])
      have HTN := Lib.hid hTn
      have HTL := Lib.hid hTl
      have HTN2 := Lib.hid htn
      clear hTn hTl htn
      have szT : ((tx T).size : Int) = (tn : Int) := by rw [tx_size, HTN.out]
      go_wp2_with fail
      have hc12 : ((tn : Int) - 4).toNat - 8 = tn - 12 := by have := HTL.out; omega
      rw [hc12]
      have hte : tn - 12 = E.length := by have := HTL.out; omega
      have hy := (hrd6.bfrom (k := 8) (by have := HTL.out; omega) hcap).bto (k := tn - 12) (by omega)
      rw [hte, HFB.out, ← hte] at hy
      have htb : tn ≤ 3000 := by omega
      have htc : tn - 12 ≤ c6 - 8 := by omega
      have hu26 := hu25.trans hu6
      have hx6 := hx5.up hu6
      clear hc12 hte hrd6 hcut hconv tw hx5 hu5 hu25 hu24 hu4 hu3
      refine (eread_any _ (tn - 12) (c6 - 8) E w6 hy (by omega) htc).mono ?_
      intro e w7 hp
      rw [HRE.out] at hp
      obtain ⟨D', dn', dc', A', an', ac', rfl, hd', hdc', ha', hac', hu7⟩ := hp
      (try dsimp only at hd' ha' ⊢)
      have hu27 := hu26.trans hu7
      have hdl' : dn' = dn := by rw [hd'.dlen, rd2.dlen]
      have hal' : an' = an := by rw [ha'.flen, ra2.flen]
      have hx7 := hx6.up hu7
      have hu8 : Up w7 (w7.alloc (.cells #[.slice D' dn' dc', .slice A' an' ac', .int .i64 lg, .int .u64 (f : Int), .int .u64 (ce : Int), .int .u64 (at_ : Int), .int .u64 (le : Int)] 32)) := (Up.refl w7).alloc _
      have hh8 : (w7.alloc (.cells #[.slice D' dn' dc', .slice A' an' ac', .int .i64 lg, .int .u64 (f : Int), .int .u64 (ce : Int), .int .u64 (at_ : Int), .int .u64 (le : Int)] 32)).heap[w7.heap.size]? = some (.cells #[.slice D' dn' dc', .slice A' an' ac', .int .i64 lg, .int .u64 (f : Int), .int .u64 (ce : Int), .int .u64 (at_ : Int), .int .u64 (le : Int)] 32 (0, 0)) := heap_alloc_new w7 _
      have hb8 := HBL.out _ (hu27.trans hu8)
      have hcv1 : (convert 43 9 (.slice A1 n1 c1)).run Try.prog (w7.alloc (.cells #[.slice D' dn' dc', .slice A' an' ac', .int .i64 lg, .int .u64 (f : Int), .int .u64 (ce : Int), .int .u64 (at_ : Int), .int .u64 (le : Int)] 32)) = .ok (.string (tx (bs ++ T))) _ := run_str c1 (hx7.up hu8)
      have hcv2 : (convert 43 9 (.slice B n c)).run Try.prog (w7.alloc (.cells #[.slice D' dn' dc', .slice A' an' ac', .int .i64 lg, .int .u64 (f : Int), .int .u64 (ce : Int), .int .u64 (at_ : Int), .int .u64 (le : Int)] 32)) = .ok (.string (tx bs)) _ := run_str c (hbb2.up (hu27.trans hu8))
      have hq : ((tx (bs ++ T)).toList == (tx (cc bs T)).toList) = true := tx_beq rfl
      have q0 := blk_cell hb8 0
      have q1 := blk_cell hb8 1
      have q2 := blk_cell hb8 2
      have q3 := blk_cell hb8 3
      have q4 := blk_cell hb8 4
      have q5 := blk_cell hb8 5
      have q6 := blk_cell hb8 6
      have p0 := blk_cell hh8 0
      have p1 := blk_cell hh8 1
      have p2 := blk_cell hh8 2
      have p3 := blk_cell hh8 3
      have p4 := blk_cell hh8 4
      have p5 := blk_cell hh8 5
      have p6 := blk_cell hh8 6
      have hd8 := hd'.up hu8
      have ha8 := ha'.up hu8
      have hrd8 := rd2.up (hu27.trans hu8)
      have hra8 := ra2.up (hu27.trans hu8)
      have hu28 := hu27.trans hu8
      have b1 : dn' ≤ 1099511627776 := by omega
      have b2 : an' ≤ 1099511627776 := by omega
      have b3 : dn ≤ 1099511627776 := by omega
      have b4 : an ≤ 1099511627776 := by omega
      have hsm : sameE ds add lg f ce at_ le ds add lg f ce at_ le = true := by unfold sameE; simp
      have HSM := Lib.hid hsm
      clear hsm hb8 hh8 hdl' hal' hx6 hx7 hu7 hy hu26 szT
      go_wp2_with fail
      refine (same15_any D' dn' dc' ds A' an' ac' add lg f ce at_ le D dn dc ds A an ac add lg f ce at_ le _ hd8 b1 ha8 b2 hrd8 b3 hra8 b4).mono ?_
      rintro e w9 ⟨rfl, hu9⟩
      rw [HSM.out]
      go_wp2_with (go_at_call 11; with_reducible refine (awake15_any _).mono ?_; rintro e w10 ⟨rfl, hu10⟩)
      go_ret
      exact ⟨rfl, ((hup2.trans hu28).trans hu9).trans hu10⟩
  · have hfd : decide (dn ≤ 60 ∧ an ≤ 60) = false := by simp; omega
    rw [hfd]
    clear hfd hf
    go_wp2_with (go_at_call 11; with_reducible refine (awake15_any _).mono ?_; rintro e w4 ⟨rfl, hu4⟩)
    go_ret
    exact ⟨rfl, hup2.trans hu4⟩
end Go.Proofs.Ytokcaoaclheiiaa.editPuts
