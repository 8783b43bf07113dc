/-
  The walk of the document's ReadMsg.
-/
import Derived.Test.YtnbdijifhimogaaMsgW6
import Derived.Test.YtnbdijifhimogaaItemW10
import Derived.Test.YtnbdijifhimogaaFrameW10
namespace Go.Proofs.Ytnbdijifhimogaa
open Go.RowKit
set_option linter.unusedVariables false
set_option linter.unusedSimpArgs false

theorem ext_txd {l : List UInt8} (a M : Nat) (hM : (tx l).size = M) : (tx l).extract a M = tx (l.drop a) := by
  refine tx_of ?_
  rw [← hM]
  exact ext_tx (tx_list l) a
set_option maxRecDepth 100000 in
set_option maxHeartbeats 4000000 in
theorem mrread_any (bs : List UInt8) (w : World) (hl : bs.length ≤ 549755813888) :
    Calls Try.prog 16 #[.string (tx bs)] w (MPost (readM bs) w) := by
  obtain ⟨N, hN⟩ : ∃ N, N = bs.length := ⟨_, rfl⟩
  obtain ⟨E, K, bd, nx, hT⟩ : ∃ E K bd nx, takeF bs 0 = (E, K, bd, nx) := ⟨_, _, _, _, rfl⟩
  have hv : readM bs = if E ≠ 0 then (E, mt0) else if K ≠ 9 ∨ nx ≠ (N : Int) ∨ bd.length < 3 then (3, mt0) else readN bd := by
    unfold readM; rw [hT, hN]
  have hbdl : bd.length ≤ 549755813888 := by
    have h := takeF_len bs 0
    rw [hT] at h
    exact Nat.le_trans h hl
  have hzb : (tx bs).size = N := by rw [tx_size, hN]
  obtain ⟨M, hM⟩ : ∃ M, M = bd.length := ⟨_, rfl⟩
  have hz : (tx bd).size = M := by rw [tx_size, hM]
  rw [← hM] at hbdl hv
  have HV := Lib.hid hv
  have HT := Lib.hid hT
  have HM := Lib.hid hM
  clear hv hT hM hN
  obtain ⟨w2, hw2⟩ : ∃ w2, w2 = w.alloc (.cells #[.int .i64 0, .int .i64 0, .int .i64 0, .int .u64 0, .int .u64 0, .slice none 0 0] 25) := ⟨_, rfl⟩
  have hup2 : Up w w2 := by rw [hw2]; exact (Up.refl w).alloc _
  have hg2 : w2.heap[w.heap.size]? = some (.cells #[.int .i64 0, .int .i64 0, .int .i64 0, .int .u64 0, .int .u64 0, .slice none 0 0] 25 (0, 0)) := by
    rw [hw2]; exact heap_alloc_new w _
  have HW := Lib.hid hw2
  clear hw2
  go_enter Try.func16, Try.ntmps16
  go_wp2_with fail
  rw [← HW.out]
  clear HW
  have hgw9 : w.heap.size ≤ w.heap.size := Nat.le_refl _
  generalize hg2E : w.heap.size = g2 at hg2 ⊢
  rw [hg2E] at hgw9
  have hgw9 : w.heap.size ≤ g2 := by omega
  refine (unframe_any bs 0 w2 hl).mono ?_
  rintro e w3 ⟨rfl, hu3⟩
  rw [HT.out]
  (try dsimp only)
  have hg9 := (hu3.block _ (Array.getElem?_eq_some_iff.1 hg2).1).trans hg2
  have hup9 := hup2.trans hu3
  have hgl : g2 < w3.heap.size := (Array.getElem?_eq_some_iff.1 hg9).1
  clear hg2 hup2 hu3
  by_cases hE : E = 0
  · by_cases hK : K = 9
    · by_cases hX : nx = (N : Int)
      · by_cases h3 : M < 3
        · have HNO : Hid (readM bs = (3, mt0)) := by
            show _ = _
            rw [HV.out, if_neg (by simp [hE]), if_pos (.inr (.inr h3))]
          have c1 : ((E : Int) != 0) = false := by simp [hE]
          have c2 : ((K : Int) != 9) = false := by simp [hK]
          have c3 : (nx != (N : Int)) = false := by simp [hX]
          have c4 : (M : Int) < 3 := by omega
          clear HV HT hE hK hX
          have t0 := blk_cell hg9 0
          have t1 := blk_cell hg9 1
          have t2 := blk_cell hg9 2
          have t3 := blk_cell hg9 3
          have t4 := blk_cell hg9 4
          have t5 := blk_cell hg9 5
          have s0 := blk_free hg9 0
          have s1 := blk_free hg9 1
          have s2 := blk_free hg9 2
          have s3 := blk_free hg9 3
          have s4 := blk_free hg9 4
          have s5 := blk_free hg9 5
          have h7 := set6 _ g2 _ _ _ _ _ _ (.int .i64 0) (.int .i64 0) (.int .i64 0) (.int .u64 0) (.int .u64 0) (.slice none 0 0) _ hg9
          have hup10 := keepsUpM hup9 hgw9 h7.2
          have H71 := Lib.hid h7.1
          have HUP := Lib.hid hup10
          clear h7 hup10 hup9 hg9
          go_wp2_with fail
          have u0 := blk_cell H71.out 0
          have u1 := blk_cell H71.out 1
          have u2 := blk_cell H71.out 2
          have u3 := blk_cell H71.out 3
          have u4 := blk_cell H71.out 4
          have u5 := blk_cell H71.out 5
          refine bodyPost_ret (v := .tuple #[.agg #[.int .i64 0, .int .i64 0, .int .i64 0, .int .u64 0, .int .u64 0, .slice none 0 0], .int .i64 (3)]) (by simp [results, Try.results16, go_sem, u0, u1, u2, u3, u4, u5]) rfl ?_
          exact MPost.no HNO.out HUP.out
        · have hN : readM bs = readN bd := by
            rw [HV.out, if_neg (by simp [hE]), if_neg (by rintro (a | a | a); exact a hK; exact a hX; omega)]
          have c1 : ((E : Int) != 0) = false := by simp [hE]
          have c2 : ((K : Int) != 9) = false := by simp [hK]
          have c3 : (nx != (N : Int)) = false := by simp [hX]
          have c4 : ¬ (M : Int) < 3 := by omega
          have k0 := getD_str (tx_list bd) (k := 0) (by omega)
          have k1 := getD_str (tx_list bd) (k := 1) (by omega)
          have k2 := getD_str (tx_list bd) (k := 2) (by omega)
          have hx0 := (bd.getD 0 0).toNat_lt
          have hx1 := (bd.getD 1 0).toNat_lt
          have hx2 := (bd.getD 2 0).toNat_lt
          unfold readN at hN
          generalize bd.getD 0 0 = x0 at *
          generalize bd.getD 1 0 = x1 at *
          generalize bd.getD 2 0 = x2 at *
          have h3e := ext_txd 3 M hz
          have hr0l : (bd.drop 3).length = M - 3 := by rw [List.length_drop, ← HM.out]
          have HX3 := Lib.hid h3e
          have HN := Lib.hid hN
          have HR0 := Lib.hid hr0l
          have q0 : (0 : Int) < (M : Int) := by omega
          have q1 : (1 : Int) < (M : Int) := by omega
          have q2 : (2 : Int) < (M : Int) := by omega
          have q3 : (3 : Int) ≤ (M : Int) := by omega
          have n0 : 0 < M := by omega
          have n1 : 1 < M := by omega
          have n2 : 2 < M := by omega
          have n3 : 3 ≤ M := by omega
          clear HV HT hE hK hX hN h3e hr0l
          go_wp2_with fail
          rw [HX3.out]
          refine (rtake_any _ (bd.drop 3) w3 (tx_list _) (by rw [tx_size, HR0.out]; omega)).mono ?_
          rintro e w4 ⟨rfl, rfl⟩
          by_cases he : (takeL (bd.drop 3)).2.2 = 0
          · have hok := takeL_ok he
            rw [HR0.out] at hok
            have hs2 : takesL 2 [] (bd.drop 3) = takesL 1 [(takeL (bd.drop 3)).1] ((bd.drop 3).drop (takeL (bd.drop 3)).2.1) := by
              conv => lhs; unfold takesL
              rw [if_pos he]; rfl
            rw [List.drop_drop] at hs2
            rw [he]
            have HS2 := Lib.hid hs2
            clear hs2 he
            generalize (takeL (bd.drop 3)).1 = a1 at *
            generalize (takeL (bd.drop 3)).2.1 = s1 at *
            obtain ⟨o1, o2, o3, o4⟩ := hok
            have v3 : IntKind.i64.wrap (3 + (s1 : Int)) = 3 + (s1 : Int) := IntWalk.i64_in _ (by omega)
            have z1 : 3 + (s1 : Int) ≤ (M : Int) := by omega
            have z2 : (0 : Int) ≤ 3 + (s1 : Int) := by omega
            have z3 : (3 + (s1 : Int)).toNat = 3 + s1 := by omega
            have z4 : 3 + s1 ≤ M := by omega
            have h3e := ext_txd (l := bd) (3 + s1) M hz
            have hr1l : (bd.drop (3 + s1)).length = M - (3 + s1) := by rw [List.length_drop, ← HM.out]
            have HX4 := Lib.hid h3e
            have HR1 := Lib.hid hr1l
            clear h3e hr1l
            go_wp2_with fail
            rw [HX4.out]
            refine (rtake_any _ (bd.drop (3 + s1)) w3 (tx_list _) (by rw [tx_size, HR1.out]; omega)).mono ?_
            rintro e w4 ⟨rfl, rfl⟩
            by_cases he : (takeL (bd.drop (3 + s1))).2.2 = 0
            · have hok := takeL_ok he
              rw [HR1.out] at hok
              have hs3 : takesL 1 [a1] (bd.drop (3 + s1)) = (0, [a1, (takeL (bd.drop (3 + s1))).1], (bd.drop (3 + s1)).drop (takeL (bd.drop (3 + s1))).2.1) := by
                unfold takesL
                rw [if_pos he]; rfl
              rw [List.drop_drop] at hs3
              rw [he]
              have HS3 := Lib.hid (HS2.out.trans hs3)
              clear hs3 he HS2
              generalize (takeL (bd.drop (3 + s1))).1 = a2 at *
              generalize (takeL (bd.drop (3 + s1))).2.1 = s2 at *
              obtain ⟨p1, p2, p3, p4⟩ := hok
              have v4 : IntKind.i64.wrap (3 + (s1 : Int) + (s2 : Int)) = 3 + (s1 : Int) + (s2 : Int) := IntWalk.i64_in _ (by omega)
              have z5 : 3 + (s1 : Int) + (s2 : Int) ≤ (M : Int) := by omega
              have z6 : (0 : Int) ≤ 3 + (s1 : Int) + (s2 : Int) := by omega
              have z7 : (3 + (s1 : Int) + (s2 : Int)).toNat = 3 + s1 + s2 := by omega
              have z8 : 3 + s1 + s2 ≤ M := by omega
              have h3e := ext_txd (l := bd) (3 + s1 + s2) M hz
              have HX5 := Lib.hid h3e
              have hRX : readX x0.toNat x1.toNat x2.toNat (bd.drop 3) = if (readL (bd.drop (3 + s1 + s2))).1 ≠ 0 ∨ msgB (x0.toNat : Int) (x1.toNat : Int) (x2.toNat : Int) a1 a2 (readL (bd.drop (3 + s1 + s2))).2 = false then (3, mt0) else (0, x0.toNat, x1.toNat, x2.toNat, a1, a2, (readL (bd.drop (3 + s1 + s2))).2) := by
                unfold readX
                simp only [HS3.out]
                rw [if_neg (by simp)]
                rfl
              have HRX := Lib.hid (HN.out.trans hRX)
              clear h3e hRX HN HS3
              go_wp2_with fail
              rw [HX5.out]
              refine (rread_any (bd.drop (3 + s1 + s2)) w3 (by rw [List.length_drop, ← HM.out]; omega)).mono ?_
              rintro e w4 ⟨Q, qn, qc, rfl, hoQ, hu4⟩
              obtain ⟨qe, ql, hq⟩ : ∃ a b, readL (bd.drop (3 + s1 + s2)) = (a, b) := ⟨_, _, rfl⟩
              rw [hq] at hoQ HRX ⊢
              (try dsimp only at hoQ HRX ⊢)
              clear hq
              replace hg9 := (hu4.block _ (Array.getElem?_eq_some_iff.1 hg9).1).trans hg9
              replace hup9 := hup9.trans hu4
              have hgl4 := Nat.lt_of_lt_of_le hgl hu4.size
              have y0 : IntKind.i64.wrap (x0.toNat : Int) = (x0.toNat : Int) := IntWalk.i64_in _ (by omega)
              have y1 : IntKind.i64.wrap (x1.toNat : Int) = (x1.toNat : Int) := IntWalk.i64_in _ (by omega)
              have y2 : IntKind.i64.wrap (x2.toNat : Int) = (x2.toNat : Int) := IntWalk.i64_in _ (by omega)
              clear z1 z2 z3 z4 z5 z6 z7 z8 v3 v4
              go_wp2_with fail
              apply Rg.region_up (fun W => Up w4 W) (by kernel_rfl) (by kernel_rfl) (fun w1 h => h)
              · intro QN hQN
                iterate 13 (apply Rg.RK.ok; (· intro vs w1 hS; go_simp; with_reducible rfl); (· rfl); simp only [Act.put, List.setIfInBounds_toArray, List.set_cons_zero, List.set_cons_succ, Nat.reduceAdd])
                apply Rg.RK.opn (Nw6 w4.heap.size) Rg.ob [] []
                · exact fun v W1 W2 h hs => h.sta hs
                · rfl
                · intro vs w1 hK hS _ K hKK
                  go_simp
                  exact hKK.out _ _ ⟨w1.heap.size, rfl, (keeps_up hK).size, heap_alloc_new w1 _⟩ (Rg.Keeps.of_up ((Up.refl _).alloc _)) (by rintro g rfl; exact ⟨by simp, .inl (Nat.le_refl _)⟩)
                simp only [Act.put, List.setIfInBounds_toArray, List.set_cons_zero, List.set_cons_succ, Nat.reduceAdd]
                apply Rg.RK.opD (fun vs W => Ms6 w4.heap.size x0.toNat x1.toNat x2.toNat a1 a2 (.slice Q qn qc) (vs 13) W) (fun vs => Rg.ob (vs 13)) [13] [13] [13] (fun vs vs' h => by rw [h 13 (by simp)]; exact ⟨rfl, rfl⟩)
                · exact fun vs W1 W2 h hs => h.sta hs
                · rfl
                · intro vs w1 hK hS hf K hKK
                  obtain ⟨⟨g, hv, hbs, hh⟩, -⟩ := hf
                  (try dsimp only at hKK ⊢)
                  rw [hv] at hKK ⊢
                  have c0 := blk_cell hh
                  have c1 := blk_free hh
                  go_simp
                  have h5 := set6 w1 g _ _ _ _ _ _ (.int .i64 (x0.toNat : Int)) (.int .i64 (x1.toNat : Int)) (.int .i64 (x2.toNat : Int)) (.int .u64 (a1 : Int)) (.int .u64 (a2 : Int)) (.slice Q qn qc) _ hh
                  refine hKK.out undef _ ⟨g, hv, hbs, h5.1⟩ (Keeps.weak h5.2 fun y hy => ⟨13, List.mem_singleton.2 rfl, ?_⟩) (fun y hy => ⟨?_, .inr ⟨13, List.mem_singleton.2 rfl, hy⟩⟩)
                  · show Rg.ob (vs 13) y
                    rw [hv]; exact hy.symm
                  · have hy' : Rg.ob (vs 13) y := hy
                    rw [hv] at hy'
                    have hgy : g = y := hy'
                    rw [← hgy]; exact (Array.getElem?_eq_some_iff.1 h5.1).1
                simp only [Act.put, List.setIfInBounds_toArray, List.set_cons_zero, List.set_cons_succ, Nat.reduceAdd]
                apply Rg.RK.fin [14]
                intro vs w1 hK hS hf
                obtain ⟨⟨gm, hv, hmnew, hm⟩, -⟩ := hf
                refine hQN.out _ _ ?_
                clear hQN
                have huW := keeps_up hK
                (try dsimp only)
                rw [hv]
                replace hg9 := (huW.block _ (Array.getElem?_eq_some_iff.1 hg9).1).trans hg9
                replace hup9 := hup9.trans huW
                have hoQ7 := own_up hoQ huW
                clear hv hK hS y0 y1 y2 k0 k1 k2
                by_cases hqe : qe = 0
                · subst hqe
                  have hcN : ((((0 : Nat) : Int)) != 0) = false := rfl
                  have p0 := blk_cell hm 0
                  have p1 := blk_cell hm 1
                  have p2 := blk_cell hm 2
                  have p3 := blk_cell hm 3
                  have p4 := blk_cell hm 4
                  have p5 := blk_cell hm 5
                  go_wp2_with fail
                  clear p0 p1 p2 p3 p4 p5 hcN
                  refine (rmok_any x0.toNat x1.toNat x2.toNat a1 a2 Q qn qc ql w1 (Rd.own hoQ7) (own_max hoQ7)).mono ?_
                  rintro e w10 ⟨rfl, hu10⟩
                  obtain ⟨mb, hmb⟩ : ∃ b, b = msgB (x0.toNat : Int) (x1.toNat : Int) (x2.toNat : Int) a1 a2 ql := ⟨_, rfl⟩
                  rw [← hmb] at HRX ⊢
                  clear hmb
                  replace hg9 := (hu10.block _ (Array.getElem?_eq_some_iff.1 hg9).1).trans hg9
                  replace hup9 := hup9.trans hu10
                  have hm9 := (hu10.block _ (Array.getElem?_eq_some_iff.1 hm).1).trans hm
                  have hoQ9 := own_up hoQ7 hu10
                  clear hm hoQ7 hu10
                  cases mb
                  · have HNO : Hid (readM bs = (3, mt0)) := by
                      show _ = _
                      rw [HRX.out, if_pos (.inr rfl)]
                    clear HRX hm9 hoQ9
                    have t0 := blk_cell hg9 0
                    have t1 := blk_cell hg9 1
                    have t2 := blk_cell hg9 2
                    have t3 := blk_cell hg9 3
                    have t4 := blk_cell hg9 4
                    have t5 := blk_cell hg9 5
                    have s0 := blk_free hg9 0
                    have s1 := blk_free hg9 1
                    have s2 := blk_free hg9 2
                    have s3 := blk_free hg9 3
                    have s4 := blk_free hg9 4
                    have s5 := blk_free hg9 5
                    have h7 := set6 _ g2 _ _ _ _ _ _ (.int .i64 0) (.int .i64 0) (.int .i64 0) (.int .u64 0) (.int .u64 0) (.slice none 0 0) _ hg9
                    have hup10 := keepsUpM hup9 hgw9 h7.2
                    have H71 := Lib.hid h7.1
                    have HUP := Lib.hid hup10
                    clear h7 hup10 hup9 hg9
                    go_wp2_with fail
                    have u0 := blk_cell H71.out 0
                    have u1 := blk_cell H71.out 1
                    have u2 := blk_cell H71.out 2
                    have u3 := blk_cell H71.out 3
                    have u4 := blk_cell H71.out 4
                    have u5 := blk_cell H71.out 5
                    refine bodyPost_ret (v := .tuple #[.agg #[.int .i64 0, .int .i64 0, .int .i64 0, .int .u64 0, .int .u64 0, .slice none 0 0], .int .i64 (3)]) (by simp [results, Try.results16, go_sem, u0, u1, u2, u3, u4, u5]) rfl ?_
                    exact MPost.no HNO.out HUP.out
                  · have HYES : Hid (readM bs = (0, x0.toNat, x1.toNat, x2.toNat, a1, a2, ql)) := by
                      show _ = _
                      rw [HRX.out, if_neg (by simp)]
                    have p0 := blk_cell hm9 0
                    have p1 := blk_cell hm9 1
                    have p2 := blk_cell hm9 2
                    have p3 := blk_cell hm9 3
                    have p4 := blk_cell hm9 4
                    have p5 := blk_cell hm9 5
                    have t0 := blk_cell hg9 0
                    have t1 := blk_cell hg9 1
                    have t2 := blk_cell hg9 2
                    have t3 := blk_cell hg9 3
                    have t4 := blk_cell hg9 4
                    have t5 := blk_cell hg9 5
                    have s0 := blk_free hg9 0
                    have s1 := blk_free hg9 1
                    have s2 := blk_free hg9 2
                    have s3 := blk_free hg9 3
                    have s4 := blk_free hg9 4
                    have s5 := blk_free hg9 5
                    have h7 := set6 _ g2 _ _ _ _ _ _ (.int .i64 (x0.toNat : Int)) (.int .i64 (x1.toNat : Int)) (.int .i64 (x2.toNat : Int)) (.int .u64 (a1 : Int)) (.int .u64 (a2 : Int)) (.slice Q qn qc) _ hg9
                    have hup10 := keepsUpM hup9 hgw9 h7.2
                    have hoQ10 := Rd.own (own_keepsM hoQ9 (by omega) h7.2)
                    have hqc := own_cap hoQ9
                    have H71 := Lib.hid h7.1
                    have HUP := Lib.hid hup10
                    have HOQ := Lib.hid hoQ10
                    clear h7 hup10 hup9 hg9 hm9 hoQ9 hoQ10 HRX
                    go_wp2_with fail
                    have u0 := blk_cell H71.out 0
                    have u1 := blk_cell H71.out 1
                    have u2 := blk_cell H71.out 2
                    have u3 := blk_cell H71.out 3
                    have u4 := blk_cell H71.out 4
                    have u5 := blk_cell H71.out 5
                    refine bodyPost_ret (v := .tuple #[.agg #[.int .i64 (x0.toNat : Int), .int .i64 (x1.toNat : Int), .int .i64 (x2.toNat : Int), .int .u64 (a1 : Int), .int .u64 (a2 : Int), .slice Q qn qc], .int .i64 0]) (by simp [results, Try.results16, go_sem, u0, u1, u2, u3, u4, u5]) rfl ?_
                    unfold MPost
                    rw [HYES.out]
                    exact ⟨Q, qn, qc, rfl, HOQ.out, hqc, HUP.out⟩
                · have HNO : Hid (readM bs = (3, mt0)) := by
                    show _ = _
                    rw [HRX.out, if_pos (.inl hqe)]
                  have c9 : ((qe : Int) != 0) = true := by simp; omega
                  clear HRX hm hoQ7
                  have t0 := blk_cell hg9 0
                  have t1 := blk_cell hg9 1
                  have t2 := blk_cell hg9 2
                  have t3 := blk_cell hg9 3
                  have t4 := blk_cell hg9 4
                  have t5 := blk_cell hg9 5
                  have s0 := blk_free hg9 0
                  have s1 := blk_free hg9 1
                  have s2 := blk_free hg9 2
                  have s3 := blk_free hg9 3
                  have s4 := blk_free hg9 4
                  have s5 := blk_free hg9 5
                  have h7 := set6 _ g2 _ _ _ _ _ _ (.int .i64 0) (.int .i64 0) (.int .i64 0) (.int .u64 0) (.int .u64 0) (.slice none 0 0) _ hg9
                  have hup10 := keepsUpM hup9 hgw9 h7.2
                  have H71 := Lib.hid h7.1
                  have HUP := Lib.hid hup10
                  clear h7 hup10 hup9 hg9
                  go_wp2_with fail
                  have u0 := blk_cell H71.out 0
                  have u1 := blk_cell H71.out 1
                  have u2 := blk_cell H71.out 2
                  have u3 := blk_cell H71.out 3
                  have u4 := blk_cell H71.out 4
                  have u5 := blk_cell H71.out 5
                  refine bodyPost_ret (v := .tuple #[.agg #[.int .i64 0, .int .i64 0, .int .i64 0, .int .u64 0, .int .u64 0, .slice none 0 0], .int .i64 (3)]) (by simp [results, Try.results16, go_sem, u0, u1, u2, u3, u4, u5]) rfl ?_
                  exact MPost.no HNO.out HUP.out
              · kernel_rfl
            · have hv : readX x0.toNat x1.toNat x2.toNat (bd.drop 3) = (3, mt0) := by
                have hst : takesL 2 [] (bd.drop 3) = ((takeL (bd.drop (3 + s1))).2.2, [], []) := by
                  rw [HS2.out]
                  unfold takesL
                  rw [if_neg he]
                unfold readX
                simp only [hst]
                rw [if_pos he]
              have HNO : Hid (readM bs = (3, mt0)) := HN.out.trans hv
              have c9 : (((takeL (bd.drop (3 + s1))).2.2 : Int) != 0) = true := by simp; omega
              clear hv HN HS2 he
              have t0 := blk_cell hg9 0
              have t1 := blk_cell hg9 1
              have t2 := blk_cell hg9 2
              have t3 := blk_cell hg9 3
              have t4 := blk_cell hg9 4
              have t5 := blk_cell hg9 5
              have s0 := blk_free hg9 0
              have s1 := blk_free hg9 1
              have s2 := blk_free hg9 2
              have s3 := blk_free hg9 3
              have s4 := blk_free hg9 4
              have s5 := blk_free hg9 5
              have h7 := set6 _ g2 _ _ _ _ _ _ (.int .i64 0) (.int .i64 0) (.int .i64 0) (.int .u64 0) (.int .u64 0) (.slice none 0 0) _ hg9
              have hup10 := keepsUpM hup9 hgw9 h7.2
              have H71 := Lib.hid h7.1
              have HUP := Lib.hid hup10
              clear h7 hup10 hup9 hg9
              go_wp2_with fail
              have u0 := blk_cell H71.out 0
              have u1 := blk_cell H71.out 1
              have u2 := blk_cell H71.out 2
              have u3 := blk_cell H71.out 3
              have u4 := blk_cell H71.out 4
              have u5 := blk_cell H71.out 5
              refine bodyPost_ret (v := .tuple #[.agg #[.int .i64 0, .int .i64 0, .int .i64 0, .int .u64 0, .int .u64 0, .slice none 0 0], .int .i64 (3)]) (by simp [results, Try.results16, go_sem, u0, u1, u2, u3, u4, u5]) rfl ?_
              exact MPost.no HNO.out HUP.out
          · have hv : readX x0.toNat x1.toNat x2.toNat (bd.drop 3) = (3, mt0) := by
              have hst : takesL 2 [] (bd.drop 3) = ((takeL (bd.drop 3)).2.2, [], []) := by
                conv => lhs; unfold takesL
                rw [if_neg he]
              unfold readX
              simp only [hst]
              rw [if_pos he]
            have HNO : Hid (readM bs = (3, mt0)) := HN.out.trans hv
            have c9 : (((takeL (bd.drop 3)).2.2 : Int) != 0) = true := by simp; omega
            clear hv HN he
            have t0 := blk_cell hg9 0
            have t1 := blk_cell hg9 1
            have t2 := blk_cell hg9 2
            have t3 := blk_cell hg9 3
            have t4 := blk_cell hg9 4
            have t5 := blk_cell hg9 5
            have s0 := blk_free hg9 0
            have s1 := blk_free hg9 1
            have s2 := blk_free hg9 2
            have s3 := blk_free hg9 3
            have s4 := blk_free hg9 4
            have s5 := blk_free hg9 5
            have h7 := set6 _ g2 _ _ _ _ _ _ (.int .i64 0) (.int .i64 0) (.int .i64 0) (.int .u64 0) (.int .u64 0) (.slice none 0 0) _ hg9
            have hup10 := keepsUpM hup9 hgw9 h7.2
            have H71 := Lib.hid h7.1
            have HUP := Lib.hid hup10
            clear h7 hup10 hup9 hg9
            go_wp2_with fail
            have u0 := blk_cell H71.out 0
            have u1 := blk_cell H71.out 1
            have u2 := blk_cell H71.out 2
            have u3 := blk_cell H71.out 3
            have u4 := blk_cell H71.out 4
            have u5 := blk_cell H71.out 5
            refine bodyPost_ret (v := .tuple #[.agg #[.int .i64 0, .int .i64 0, .int .i64 0, .int .u64 0, .int .u64 0, .slice none 0 0], .int .i64 (3)]) (by simp [results, Try.results16, go_sem, u0, u1, u2, u3, u4, u5]) rfl ?_
            exact MPost.no HNO.out HUP.out
      · have HNO : Hid (readM bs = (3, mt0)) := by
          show _ = _
          rw [HV.out, if_neg (by simp [hE]), if_pos (.inr (.inl hX))]
        have c1 : ((E : Int) != 0) = false := by simp [hE]
        have c2 : ((K : Int) != 9) = false := by simp [hK]
        have c3 : (nx != (N : Int)) = true := by simp [hX]
        clear HV HT hE hK hX
        have t0 := blk_cell hg9 0
        have t1 := blk_cell hg9 1
        have t2 := blk_cell hg9 2
        have t3 := blk_cell hg9 3
        have t4 := blk_cell hg9 4
        have t5 := blk_cell hg9 5
        have s0 := blk_free hg9 0
        have s1 := blk_free hg9 1
        have s2 := blk_free hg9 2
        have s3 := blk_free hg9 3
        have s4 := blk_free hg9 4
        have s5 := blk_free hg9 5
        have h7 := set6 _ g2 _ _ _ _ _ _ (.int .i64 0) (.int .i64 0) (.int .i64 0) (.int .u64 0) (.int .u64 0) (.slice none 0 0) _ hg9
        have hup10 := keepsUpM hup9 hgw9 h7.2
        have H71 := Lib.hid h7.1
        have HUP := Lib.hid hup10
        clear h7 hup10 hup9 hg9
        go_wp2_with fail
        have u0 := blk_cell H71.out 0
        have u1 := blk_cell H71.out 1
        have u2 := blk_cell H71.out 2
        have u3 := blk_cell H71.out 3
        have u4 := blk_cell H71.out 4
        have u5 := blk_cell H71.out 5
        refine bodyPost_ret (v := .tuple #[.agg #[.int .i64 0, .int .i64 0, .int .i64 0, .int .u64 0, .int .u64 0, .slice none 0 0], .int .i64 (3)]) (by simp [results, Try.results16, go_sem, u0, u1, u2, u3, u4, u5]) rfl ?_
        exact MPost.no HNO.out HUP.out
    · have HNO : Hid (readM bs = (3, mt0)) := by
        show _ = _
        rw [HV.out, if_neg (by simp [hE]), if_pos (.inl hK)]
      have c1 : ((E : Int) != 0) = false := by simp [hE]
      have c2 : ((K : Int) != 9) = true := by simp; omega
      clear HV HT hE hK
      have t0 := blk_cell hg9 0
      have t1 := blk_cell hg9 1
      have t2 := blk_cell hg9 2
      have t3 := blk_cell hg9 3
      have t4 := blk_cell hg9 4
      have t5 := blk_cell hg9 5
      have s0 := blk_free hg9 0
      have s1 := blk_free hg9 1
      have s2 := blk_free hg9 2
      have s3 := blk_free hg9 3
      have s4 := blk_free hg9 4
      have s5 := blk_free hg9 5
      have h7 := set6 _ g2 _ _ _ _ _ _ (.int .i64 0) (.int .i64 0) (.int .i64 0) (.int .u64 0) (.int .u64 0) (.slice none 0 0) _ hg9
      have hup10 := keepsUpM hup9 hgw9 h7.2
      have H71 := Lib.hid h7.1
      have HUP := Lib.hid hup10
      clear h7 hup10 hup9 hg9
      go_wp2_with fail
      have u0 := blk_cell H71.out 0
      have u1 := blk_cell H71.out 1
      have u2 := blk_cell H71.out 2
      have u3 := blk_cell H71.out 3
      have u4 := blk_cell H71.out 4
      have u5 := blk_cell H71.out 5
      refine bodyPost_ret (v := .tuple #[.agg #[.int .i64 0, .int .i64 0, .int .i64 0, .int .u64 0, .int .u64 0, .slice none 0 0], .int .i64 (3)]) (by simp [results, Try.results16, go_sem, u0, u1, u2, u3, u4, u5]) rfl ?_
      exact MPost.no HNO.out HUP.out
  · have HNO : Hid (readM bs = (E, mt0)) := by
      show _ = _
      rw [HV.out, if_pos hE]
    have c1 : ((E : Int) != 0) = true := by simp; omega
    clear HV HT hE
    have t0 := blk_cell hg9 0
    have t1 := blk_cell hg9 1
    have t2 := blk_cell hg9 2
    have t3 := blk_cell hg9 3
    have t4 := blk_cell hg9 4
    have t5 := blk_cell hg9 5
    have s0 := blk_free hg9 0
    have s1 := blk_free hg9 1
    have s2 := blk_free hg9 2
    have s3 := blk_free hg9 3
    have s4 := blk_free hg9 4
    have s5 := blk_free hg9 5
    have h7 := set6 _ g2 _ _ _ _ _ _ (.int .i64 0) (.int .i64 0) (.int .i64 0) (.int .u64 0) (.int .u64 0) (.slice none 0 0) _ hg9
    have hup10 := keepsUpM hup9 hgw9 h7.2
    have H71 := Lib.hid h7.1
    have HUP := Lib.hid hup10
    clear h7 hup10 hup9 hg9
    go_wp2_with fail
    have u0 := blk_cell H71.out 0
    have u1 := blk_cell H71.out 1
    have u2 := blk_cell H71.out 2
    have u3 := blk_cell H71.out 3
    have u4 := blk_cell H71.out 4
    have u5 := blk_cell H71.out 5
    refine bodyPost_ret (v := .tuple #[.agg #[.int .i64 0, .int .i64 0, .int .i64 0, .int .u64 0, .int .u64 0, .slice none 0 0], .int .i64 ((E : Int))]) (by simp [results, Try.results16, go_sem, u0, u1, u2, u3, u4, u5]) rfl ?_
    exact MPost.no HNO.out HUP.out
end Go.Proofs.Ytnbdijifhimogaa
