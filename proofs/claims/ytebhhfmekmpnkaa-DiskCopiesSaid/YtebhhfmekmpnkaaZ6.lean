/-
  Texts of this claim, joined: DkCp2, DkList, DkSame, DkDo, OpenOp.
-/
import Derived.Test.YtebhhfmekmpnkaaZ5
/-
  The walk of the disk's Copy.
-/
namespace Go.Proofs.Ytebhhfmekmpnkaa
open Go.RowKit Go.Maps
set_option linter.unusedVariables false
set_option linter.unusedSimpArgs false

theorem map_sta {w w' : World} {b n : Nat} {D : Mp} (h : w.ownsMap Try.prog 9 (plainElem Try.prog 3) b n D) {Y : Nat → Prop} (hs : Rg.Sta Y w w') (hy : Y b) : w'.ownsMap Try.prog 9 (plainElem Try.prog 3) b n D := by
  have hl := h.lt
  obtain ⟨es, clock, hb, r⟩ := h
  exact ⟨es, clock, (hs.block b hl hy).trans hb, r⟩
set_option maxRecDepth 100000 in
set_option maxHeartbeats 4000000 in
theorem dcopy_any {B : Nat} {h : Hp} {d : Dk} {w : World} (H : DiskAt B h d w) (hok : DkOk d) (hcl : d.calls ≤ 1000000000) :
    Calls Try.prog 33 #[.pointer (some ⟨h.g, 0, none⟩)] w fun e w' => ∃ h', e = .returned (.pointer (some ⟨h'.g, 0, none⟩)) ∧ DiskAt w.heap.size h' d w' ∧ Up w w' := by
  obtain ⟨n, hn⟩ : ∃ n, n = d.files.length := ⟨_, rfl⟩
  obtain ⟨nt, hnt⟩ : ∃ nt, nt = d.turns.length := ⟨_, rfl⟩
  have HN := Lib.hid hn
  have HNT := Lib.hid hnt
  have hnb : n ≤ 1000000 := by rw [hn]; exact hok.nf
  have hntb : nt ≤ 1000000 := by rw [hnt]; exact hok.nt
  have HH := Lib.hid H
  have HOK := Lib.hid hok
  have k0 : ∀ W, Up w W → W.cell? ⟨h.g, 0, none⟩ = some (.int .i64 (d.quota : Int)) := fun W hU => blk_cell (H.up hU).hd 0
  have k2 : ∀ W, Up w W → W.cell? ⟨h.g, 2, none⟩ = some (.map (some h.nb)) := fun W hU => blk_cell (H.up hU).hd 2
  have k3 : ∀ W, Up w W → W.cell? ⟨h.g, 3, none⟩ = some (.map (some h.lb)) := fun W hU => blk_cell (H.up hU).hd 3
  have k4 : ∀ W, Up w W → W.cell? ⟨h.g, 4, none⟩ = some (.slice h.ta nt h.tc) := fun W hU => by have h9 := blk_cell (H.up hU).hd 4; rw [hnt]; exact h9
  have k6 : ∀ W, Up w W → W.cell? ⟨h.g, 6, none⟩ = some (.bool d.dead) := fun W hU => blk_cell (H.up hU).hd 6
  have k7 : ∀ W, Up w W → W.cell? ⟨h.g, 7, none⟩ = some (.int .i64 (d.stop : Int)) := fun W hU => blk_cell (H.up hU).hd 7
  have k8 : ∀ W, Up w W → W.cell? ⟨h.g, 8, none⟩ = some (.int .i64 (d.fail : Int)) := fun W hU => blk_cell (H.up hU).hd 8
  have hS : ∀ W, Up w W → Up w W := fun _ h => h
  clear hn hnt H hok
  go_enter Try.func33, Try.ntmps33
  go_upto_region 1 with fail
  apply Rg.region_up _ (by kernel_rfl) (by kernel_rfl) hS
  · intro QN hQN
    iterate 8 (apply Rg.RK.ok; (· intro vs w1 hS; go_simp; with_reducible rfl); (· rfl); simp only [Act.put, List.setIfInBounds_toArray, List.set_cons_zero, List.set_cons_succ, Nat.reduceAdd])
    apply Rg.RK.opn (fun v W => ∃ b, v = .map (some b) ∧ w.heap.size ≤ b ∧ W.ownsMap Try.prog 9 (plainElem Try.prog 3) b (Maps.size d.names) d.names) (fun v g => v = .map (some g)) [] []
    · rintro v W1 W2 ⟨b, rfl, hb, hm⟩ hs
      exact ⟨b, rfl, hb, map_sta hm hs (.inr rfl)⟩
    · rfl
    · intro vs w9 hK hS9 hf K hKK
      go_simp
      refine (mclone_any h.nb _ d.names w9 (HH.out.up hS9).names).mono ?_
      rintro e w5 ⟨rfl, hm, hu⟩
      exact hKK.out _ _ ⟨_, rfl, hK.size, hm⟩ (Rg.Keeps.of_up hu) (fun g hg => by
        injection hg with hg
        injection hg with hg
        subst hg
        exact ⟨hm.lt, .inl (Nat.le_refl _)⟩)
    simp only [Act.put, List.setIfInBounds_toArray, List.set_cons_zero, List.set_cons_succ, Nat.reduceAdd]
    iterate 4 (apply Rg.RK.ok; (· intro vs w1 hS; go_simp; with_reducible rfl); (· rfl); simp only [Act.put, List.setIfInBounds_toArray, List.set_cons_zero, List.set_cons_succ, Nat.reduceAdd])
    apply Rg.RK.opD (fun vs W => ∃ b, vs 13 = .map (some b) ∧ w.heap.size ≤ b ∧ W.ownsMap Try.prog 9 (plainElem Try.prog 3) b (Maps.size d.lasted) d.lasted ∧ vs 8 ≠ .map (some b)) (fun vs g => vs 13 = .map (some g)) [8] [] [8] (fun vs vs' h => by rw [h 13 (by simp), h 8 (by simp)]; exact ⟨rfl, rfl⟩)
    · rintro vs W1 W2 ⟨b, hv, hb, hm, hne⟩ hs
      exact ⟨b, hv, hb, map_sta hm hs (.inr hv), hne⟩
    · rfl
    · intro vs w9 hK hS9 hf K hKK
      obtain ⟨⟨b8, hv8, hb8, hm8⟩, -⟩ := hf
      have hl8 := hm8.lt
      have HV := Lib.hid hv8
      clear hv8 hm8
      go_simp
      refine (mclone_any h.lb _ d.lasted w9 (HH.out.up hS9).lasted).mono ?_
      rintro e w5 ⟨rfl, hm, hu⟩
      refine hKK.out _ _ ⟨w9.heap.size, by rw [Rg.upd_same], hK.size, hm, ?_⟩ (Rg.Keeps.of_up hu) (fun g hg => ?_)
      · rw [Rg.upd_ne _ _ (by decide), HV.out]
        intro e
        injection e with e
        injection e with e
        omega
      · rw [Rg.upd_same] at hg
        injection hg with hg
        injection hg with hg
        subst hg
        exact ⟨hm.lt, .inl (Nat.le_refl _)⟩
    simp only [Act.put, List.setIfInBounds_toArray, List.set_cons_zero, List.set_cons_succ, Nat.reduceAdd]
    iterate 4 (apply Rg.RK.ok; (· intro vs w1 hS; go_simp; with_reducible rfl); (· rfl); simp only [Act.put, List.setIfInBounds_toArray, List.set_cons_zero, List.set_cons_succ, Nat.reduceAdd])
    apply Rg.RK.opn (fun v W => W.ownsRow w.heap.size 76 4 v nt (tcs d.turns)) Rg.ob [] []
    · exact fun v W1 W2 h hs => row_sta h hs
    · rfl
    · intro vs w9 hK hS9 hf K hKK
      have hrt : Rd w9 w9.heap.size 4 h.ta nt (tcs d.turns) := by rw [HNT.out]; exact Rd.own (HH.out.up hS9).turns
      have HRT := Lib.hid hrt
      clear hrt
      go_simp
      refine (tclone_any h.ta nt h.tc d.turns w9 HRT.out hntb).mono ?_
      rintro e w5 ⟨R, rc, rfl, ho, hu⟩
      exact hKK.out _ _ (own_base ho hK.size) (Rg.Keeps.of_up hu) (fun g hg => ⟨(inA_own ho (ob_inA hg)).2, .inl (inA_own ho (ob_inA hg)).1⟩)
    simp only [Act.put, List.setIfInBounds_toArray, List.set_cons_zero, List.set_cons_succ, Nat.reduceAdd]
    iterate 12 (apply Rg.RK.ok; (· intro vs w1 hS; go_simp; with_reducible rfl); (· rfl); simp only [Act.put, List.setIfInBounds_toArray, List.set_cons_zero, List.set_cons_succ, Nat.reduceAdd])
    apply Rg.RK.opD (fun vs _ => vs 31 = .agg #[.int .i64 (d.quota : Int), .slice none 0 0, vs 8, vs 13, vs 18, .int .i64 0, .bool d.dead, .int .i64 (d.stop : Int), .int .i64 (d.fail : Int)]) (fun _ _ => False) [8, 13, 18] [] [8, 13, 18] (fun vs vs' h => by rw [h 31 (by simp), h 8 (by simp), h 13 (by simp), h 18 (by simp)]; exact ⟨rfl, rfl⟩)
    · exact fun vs W1 W2 h hs => h
    · rfl
    · intro vs w9 hK hS9 hf K hKK
      obtain ⟨⟨b8, hv8, -⟩, ⟨b13, hv13, -⟩, h18, -⟩ := hf
      have h18' : w9.ownsRow w.heap.size 76 4 (vs 18) nt (tcs d.turns) := h18
      obtain ⟨A18, c18, hv18⟩ := own_form h18'
      (try dsimp only at hKK ⊢)
      rw [hv8, hv13, hv18]
      clear h18 h18'
      have hK9 : Hid (∀ u, u = Value.agg #[.int .i64 (d.quota : Int), .slice none 0 0, .map (some b8), .map (some b13), .slice A18 nt c18, .int .i64 0, .bool d.dead, .int .i64 (d.stop : Int), .int .i64 (d.fail : Int)] → K _ w9) := fun u hu => hKK.out u w9 (by
        rw [Rg.upd_same, Rg.upd_ne _ _ (by decide), Rg.upd_ne _ _ (by decide), Rg.upd_ne _ _ (by decide), hv8, hv13, hv18]
        exact hu) (Rg.Keeps.refl _ _) (fun g hg => hg.elim)
      (try dsimp only at hK9)
      rw [hv8, hv13, hv18] at hK9
      clear hKK hv8 hv13 hv18
      go_simp
      exact hK9.out _ rfl
    simp only [Act.put, List.setIfInBounds_toArray, List.set_cons_zero, List.set_cons_succ, Nat.reduceAdd]
    apply Rg.RK.opD (fun vs W => ∃ g, vs 32 = .pointer (some ⟨g, 0, none⟩) ∧ w.heap.size ≤ g ∧ W.heap[g]? = some (.cells #[.int .i64 (d.quota : Int), .slice none 0 0, vs 8, vs 13, vs 18, .int .i64 0, .bool d.dead, .int .i64 (d.stop : Int), .int .i64 (d.fail : Int)] 71 (0, 0))) (fun vs g => Rg.ob (vs 32) g) [31] [] [8, 13, 18] (fun vs vs' h => by rw [h 32 (by simp), h 8 (by simp), h 13 (by simp), h 18 (by simp)]; exact ⟨rfl, rfl⟩)
    · rintro vs W1 W2 ⟨g, hv, hg, hb⟩ hs
      exact ⟨g, hv, hg, (hs.block g (Array.getElem?_eq_some_iff.1 hb).1 (.inr (by rw [hv]; exact rfl))).trans hb⟩
    · rfl
    · intro vs w9 hK hS9 hf K hKK
      have h31 : vs 31 = .agg #[.int .i64 (d.quota : Int), .slice none 0 0, vs 8, vs 13, vs 18, .int .i64 0, .bool d.dead, .int .i64 (d.stop : Int), .int .i64 (d.fail : Int)] := hf.1
      (try dsimp only at hKK ⊢)
      rw [h31] at hKK ⊢
      have hK9 := fun W hu hh hl => hKK.out (.pointer (some ⟨w9.heap.size, 0, none⟩)) W ⟨w9.heap.size, by rw [Rg.upd_same], hK.size, hh⟩ (Rg.Keeps.of_up hu) (fun g hg => by
        rw [Rg.upd_same] at hg
        obtain rfl : w9.heap.size = g := hg
        exact ⟨hl, .inl (Nat.le_refl _)⟩)
      have HK9 := Lib.hid hK9
      clear hKK h31 hf hK9
      go_simp
      exact HK9.out _ ((Up.refl _).alloc _) (heap_alloc_new _ _) (by simp)
    simp only [Act.put, List.setIfInBounds_toArray, List.set_cons_zero, List.set_cons_succ, Nat.reduceAdd]
    apply Rg.RK.opD (fun vs _ => vs 33 = vs 32) (fun _ _ => False) [] [] [32] (fun vs vs' h => by rw [h 33 (by simp), h 32 (by simp)]; exact ⟨rfl, rfl⟩)
    · exact fun vs W1 W2 h hs => h
    · rfl
    · intro vs w4 hK hS hf K hKK
      go_simp
      exact hKK.out _ _ (by rw [Rg.upd_same, Rg.upd_ne _ _ (by decide)]) (Rg.Keeps.refl _ _) (fun g hg => hg.elim)
    simp only [Act.put, List.setIfInBounds_toArray, List.set_cons_zero, List.set_cons_succ, Nat.reduceAdd]
    apply Rg.RK.fin [8, 13, 18, 32, 33]
    intro vs w1 hK hU1 hf
    obtain ⟨⟨b8, hv8, hb8, hm8⟩, ⟨b13, hv13, hb13, hm13, hne⟩, h18, ⟨gc, hv32, hgc, hbc⟩, h33, -⟩ := hf
    have h18' : w1.ownsRow w.heap.size 76 4 (vs 18) nt (tcs d.turns) := h18
    obtain ⟨A18, c18, hv18⟩ := own_form h18'
    refine hQN.out _ _ ?_
    clear hQN
    (try dsimp only)
    have h33' : vs 33 = vs 32 := h33
    rw [hv18] at h18'
    rw [hv8, hv13, hv18] at hbc
    rw [hv8] at hne
    rw [h33', hv8, hv13, hv18, hv32]
    have hne2 : b8 ≠ b13 := fun e => hne (by rw [e])
    have H1 : DiskAt w.heap.size ⟨gc, none, 0, [], b8, b13, A18, c18⟩ { d with files := [], calls := 0 } w1 :=
      ⟨by rw [HNT.out] at hbc; exact hbc, hgc, World.ownsRow_nil _ _ _ _, rfl, fun i f x hf => (by simp at hf), fun i j f f' _ hf => (by simp at hf), hm8, hm13, hne2, ⟨hb8, hb13⟩, by rw [HNT.out] at h18'; exact h18'⟩
    clear h33' h33 hne hbc h18' h18 hm13 hm8 hne2 hb8 hb13 hK hv8 hv13 hv18 hv32
    obtain ⟨hc, hhc⟩ : ∃ hc : Hp, hc = ⟨gc, none, 0, [], b8, b13, A18, c18⟩ := ⟨_, rfl⟩
    have HCG : Hid (hc.g = gc) := Lib.hid (by rw [hhc])
    have HCF : Hid (hc.fa = none ∧ hc.fc = 0 ∧ hc.fl = []) := Lib.hid (by rw [hhc]; exact ⟨rfl, rfl, rfl⟩)
    rw [← hhc] at H1
    clear hhc
    generalize vs 31 = u31 at *
    go_wp2_with fail
    have hgl := (Array.getElem?_eq_some_iff.1 H1.hd).1
    have hgH : h.g < w.heap.size := (HH.out.lt (.inl rfl)).2
    rw [HCG.out] at hgl
    have hx0 : ∀ g, g = gc → g < w1.heap.size := fun g e => by rw [e]; exact hgl
    have hF0 : w1.heap[gc]? = some (.cells (dcs { d with files := [], calls := 0 } hc) 71 (0, 0)) := by have h9 := H1.hd; rw [HCG.out] at h9; exact h9
    have hS2 : ∀ W, Rg.Keeps (fun g => g = gc) w1.drew W → Rg.Keeps (fun g => g = gc) w1.drew W := fun _ h => h
    have k5 : ∀ W, Rg.Keeps (fun g => g = gc) w1.drew W → W.cell? ⟨h.g, 5, none⟩ = some (.int .i64 (d.calls : Int)) := fun W hK => by
      have h9 : w1.cell? ⟨h.g, 5, none⟩ = some (.int .i64 (d.calls : Int)) := blk_cell (HH.out.up hU1).hd 5
      exact (World.cell?_of_block (a := ⟨h.g, 5, none⟩) (hK.block h.g (Nat.lt_of_lt_of_le hgH hU1.size) (fun e => by omega))).trans h9
    have HK5 := Lib.hid k5
    have HX1 := Lib.hid H1
    clear k5 H1
    apply Rg.region_own 8 _ (fun g => g = gc) (fun W => W.heap[gc]? = some (.cells (dcs { d with files := [], calls := 0 } hc) 71 (0, 0))) rfl (by kernel_rfl) (by kernel_rfl) hx0 hF0 (fun v1 v2 h hs => (hs.block gc (Array.getElem?_eq_some_iff.1 h).1 (.inr rfl)).trans h) hS2
    · intro QN hQN
      iterate 6 (apply Rg.RK.ok; (· intro vs w1 hS; go_simp; with_reducible rfl); (· rfl); simp only [Act.put, List.setIfInBounds_toArray, List.set_cons_zero, List.set_cons_succ, Nat.reduceAdd])
      apply Rg.RK.call (.int .i64 (d.calls : Int)) []
      · rfl
      · intro vs w9 hK hS9 _ K hKK
        go_simp
        refine (iload_any h.g 5 (d.calls : Int) w9 (HK5.out w9 hS9)).mono ?_
        rintro e w2 ⟨rfl, rfl⟩
        exact hKK.out _ (Up.refl _)
      simp only [Act.put, List.setIfInBounds_toArray, List.set_cons_zero, List.set_cons_succ, Nat.reduceAdd]
      apply Rg.RK.opn (fun v W => W.heap[gc]? = some (.cells (dcs { d with files := [] } hc) 71 (0, 0))) (fun _ g => g = gc) [8] [8]
      · exact fun v v1 v2 h hs => (hs.block gc (Array.getElem?_eq_some_iff.1 h).1 (.inr rfl)).trans h
      · rfl
      · intro vs w9 hK hS9 hf K hKK
        have hh : w9.heap[gc]? = some (.cells (dcs { d with files := [], calls := 0 } hc) 71 (0, 0)) := hf.1
        have hc5 : w9.cell? ⟨gc, 5, none⟩ = some (.int .i64 0) := blk_cell hh 5
        have hz5 := blk_free hh 5
        have hset := setc_heap w9 gc 5 (.int .i64 (d.calls : Int)) _ _ hh
        have hK9 : Rg.Keeps (fun k => k = gc) w9 (w9.setCell ⟨gc, 5, none⟩ (.int .i64 (d.calls : Int))) := setc_keeps _ _ _ _ _ (Rg.Keeps.refl _ _)
        have HH2 := Lib.hid hh
        clear hf hh
        go_simp
        refine (istored_any gc 5 0 (d.calls : Int) w9 hc5 hz5).mono ?_
        rintro e w2 ⟨rfl, rfl⟩
        refine hKK.out _ _ hset (Keeps.weak hK9 fun y hy => ⟨8, List.mem_singleton.2 rfl, hy⟩) (fun y hy => ?_)
        have hy2 : y = gc := hy
        subst hy2
        exact ⟨Nat.lt_of_lt_of_le (Array.getElem?_eq_some_iff.1 HH2.out).1 hK9.size, .inr ⟨8, List.mem_singleton.2 rfl, rfl⟩⟩
      simp only [Act.put, List.setIfInBounds_toArray, List.set_cons_zero, List.set_cons_succ, Nat.reduceAdd]
      apply Rg.RK.fin [7]
      intro vs w2 hK2 hS9 hf
      have hh : w2.heap[gc]? = some (.cells (dcs { d with files := [] } hc) 71 (0, 0)) := hf.1
      refine hQN.out _ _ ?_
      clear hQN hf
      (try dsimp only)
      have hKW : Rg.Keeps (fun g => g = hc.g) w1 w2 := by rw [HCG.out]; exact ⟨hK2.os, hK2.tape, hK2.output, hK2.size, hK2.block⟩
      have H2 : DiskAt w.heap.size hc { d with files := [] } w2 := HX1.out.head hKW (by rw [HCG.out]; exact hh) rfl rfl rfl rfl
      have hU2 : Up w w2 := ⟨hKW.os.trans hU1.os, hKW.tape.trans hU1.tape, hKW.output.trans hU1.output, Nat.le_trans hU1.size hKW.size, fun k hk => (hKW.block k (Nat.lt_of_lt_of_le hk hU1.size) (fun e => by rw [e, HCG.out] at hk; omega)).trans (hU1.block k hk)⟩
      have k1 : w2.cell? ⟨h.g, 1, none⟩ = some (.slice h.fa n h.fc) := by have h9 := blk_cell (HH.out.up hU2).hd 1; rw [HN.out]; exact h9
      clear hh hKW hK2 HX1 hS2 hS9 hx0 hF0 hU1 k0 k2 k3 k4 k6 k7 k8
      generalize vs 7 = u7 at *
      go_wp2_with fail
      clear k1
      go_loopw [52] (fun iv wr => ∃ (i : Nat) (hq : Hp), iv = .int .i64 (i : Int) ∧ i ≤ n ∧ Hid (hq.g = gc) ∧ DiskAt w.heap.size hq { d with files := d.files.take i } wr ∧ Up w wr) (fun iv _ => n - (intOf iv).toNat)
      case atStart => exact ⟨0, hc, rfl, Nat.zero_le _, HCG, by rw [List.take_zero]; exact H2, hU2⟩
      case round =>
        obtain ⟨i, hq, rfl, hi, HG, H, hup⟩ := hrel
        clear H2 hU2 HCF HCG
        by_cases hlt : i < n
        · have hlti : (i : Int) < (n : Int) := by omega
          obtain ⟨b, f, x, hfa, hf, hx, hcell, hFA⟩ := file_cell (HH.out.up hup) (i := i) (by have := HN.out; omega)
          rw [hfa]
          obtain ⟨dq, hdq⟩ : ∃ dq : Dk, dq = { d with files := d.files.take i } := ⟨_, rfl⟩
          rw [← hdq] at H
          have hql : dq.files.length = i := by rw [hdq]; show (d.files.take i).length = i; rw [List.length_take]; have := HN.out; omega
          have hHd := H.hd
          rw [HG.out] at hHd
          have hgB : w.heap.size ≤ gc := by have := (H.lt (.inl rfl)).1; rw [HG.out] at this; exact this
          have hxo : ∀ g, (g = gc ∨ inA hq.fa g) → g < wr.heap.size := by
            rintro g (rfl | hg)
            · exact (Array.getElem?_eq_some_iff.1 hHd).1
            · exact (inA_own H.files hg).2
          have hxB : ∀ g, (g = gc ∨ inA hq.fa g) → w.heap.size ≤ g := by
            rintro g (rfl | hg)
            · exact hgB
            · exact (inA_own H.files hg).1
          have hrow0 : wr.ownsRow w.heap.size 73 1 (.slice hq.fa i hq.fc) i (pfs hq.fl) := by have h9 := H.files; rw [hql] at h9; exact h9
          have hS3 : ∀ W, Rg.Keeps (fun g => g = gc ∨ inA hq.fa g) wr.drew W → Rg.Keeps (fun g => g = gc ∨ inA hq.fa g) wr.drew W := fun W hK => hK
          have hKW : ∀ W, Rg.Keeps (fun g => g = gc ∨ inA hq.fa g) wr.drew W → Rg.Keeps (fun g => g = gc ∨ inA hq.fa g) wr W := fun W hK => ⟨hK.os, hK.tape, hK.output, hK.size, hK.block⟩
          have hWU : ∀ W, Rg.Keeps (fun g => g = gc ∨ inA hq.fa g) wr W → Up w W := fun W hK => ⟨hK.os.trans hup.os, hK.tape.trans hup.tape, hK.output.trans hup.output, Nat.le_trans hup.size hK.size, fun k hk => (hK.block k (Nat.lt_of_lt_of_le hk hup.size) (fun e => by have := hxB k e; omega)).trans (hup.block k hk)⟩
          have hFt : ∀ W, Up w W → FileAt B f x W := fun W hU => by
            obtain ⟨b2, f2, x2, -, hf2, hx2, -, h9⟩ := file_cell (HH.out.up hU) (i := i) (by have := HN.out; omega)
            rw [hf] at hf2
            rw [hx] at hx2
            injection hf2 with hf2
            injection hx2 with hx2
            rw [hf2, hx2]; exact h9
          have kf0 : ∀ W, Rg.Keeps (fun g => g = gc ∨ inA hq.fa g) wr.drew W → W.cell? ⟨f.g, 0, none⟩ = some (.slice f.A x.b.length f.c) := fun W hK => blk_cell (hFt W (hWU W (hKW W hK))).blk 0
          have kf1 : ∀ W, Rg.Keeps (fun g => g = gc ∨ inA hq.fa g) wr.drew W → W.cell? ⟨f.g, 1, none⟩ = some (.int .i64 (x.last : Int)) := fun W hK => blk_cell (hFt W (hWU W (hKW W hK))).blk 1
          have HRB : Hid (∀ W, Rg.Keeps (fun g => g = gc ∨ inA hq.fa g) wr.drew W → Rd W W.heap.size 1 f.A x.b.length (bvs x.b)) := fun W hK => Rd.own (hFt W (hWU W (hKW W hK))).own
          have hxb : x.b.length ≤ 250000 := (HOK.out.fb x (List.mem_of_getElem? hx)).1
          have hbB : w.heap.size ≤ wr.heap.size := hup.size
          have HX := Lib.hid hx
          have HDQ := Lib.hid hdq
          have HQL := Lib.hid hql
          have HHQ := Lib.hid H
          have HWU := Lib.hid hWU
          have HKW := Lib.hid hKW
          have HXB := Lib.hid hxB
          obtain ⟨xb, xl⟩ := x
          obtain ⟨fg, fA, fc⟩ := f
          obtain ⟨nb, hnb2⟩ : ∃ nb, nb = xb.length := ⟨_, rfl⟩
          (try dsimp only at kf0 kf1 HRB hxb)
          rw [← hnb2] at kf0 hxb HRB
          have HNB := Lib.hid hnb2
          clear hfa hf hx hFA hFt hdq hql H hnb2 hWU hKW hxB
          go_upto_region 6 with fail
          clear hcell
          apply Rg.region_own 21 _ (fun g => g = gc ∨ inA hq.fa g) (fun W => W.heap[gc]? = some (.cells (dcs dq hq) 71 (0, 0)) ∧ W.ownsRow w.heap.size 73 1 (.slice hq.fa i hq.fc) i (pfs hq.fl)) rfl (by kernel_rfl) (by kernel_rfl) hxo ⟨hHd, hrow0⟩
            (fun v1 v2 hF hs => ⟨(hs.block gc (Array.getElem?_eq_some_iff.1 hF.1).1 (.inr (.inl rfl))).trans hF.1, row_sta (Y := fun g => (g < wr.heap.size ∧ ¬ (g = gc ∨ inA hq.fa g)) ∨ (g = gc ∨ inA hq.fa g)) hF.2 ⟨hs.size, fun g hg hy => hs.block g hg (hy.elim id (fun ho => .inr (.inr (ob_inA ho))))⟩⟩) hS3
          · intro QN hQN
            iterate 4 (apply Rg.RK.ok; (· intro vs w1 hS; go_simp; with_reducible rfl); (· rfl); simp only [Act.put, List.setIfInBounds_toArray, List.set_cons_zero, List.set_cons_succ, Nat.reduceAdd])
            apply Rg.RK.okU [21]
            · intro vs w9 hS9 hf
              obtain ⟨⟨hh, -⟩, -⟩ := hf
              have c4 : w9.cell? ⟨gc, 1, none⟩ = some (.slice hq.fa dq.files.length hq.fc) := blk_cell hh 1
              rw [HQL.out] at c4
              clear hh hS9
              go_simp
              with_reducible rfl
            · rfl
            simp only [Act.put, List.setIfInBounds_toArray, List.set_cons_zero, List.set_cons_succ, Nat.reduceAdd]
            iterate 4 (apply Rg.RK.ok; (· intro vs w1 hS; go_simp; with_reducible rfl); (· rfl); simp only [Act.put, List.setIfInBounds_toArray, List.set_cons_zero, List.set_cons_succ, Nat.reduceAdd])
            apply Rg.RK.opn (fun v W => W.ownsRow wr.heap.size 5 1 v nb (bvs xb)) Rg.ob [] []
            · exact fun v W1 W2 h hs => row_sta h hs
            · rfl
            · intro vs w9 hK hS9 hf K hKK
              go_simp
              refine (bclone_any fA nb fc xb w9 (HRB.out w9 hS9) (by omega)).mono ?_
              rintro e w5 ⟨R, rc, rfl, ho, hu⟩
              exact hKK.out _ _ (own_base ho hK.size) (Rg.Keeps.of_up hu) (fun g hg => ⟨(inA_own ho (ob_inA hg)).2, .inl (inA_own ho (ob_inA hg)).1⟩)
            simp only [Act.put, List.setIfInBounds_toArray, List.set_cons_zero, List.set_cons_succ, Nat.reduceAdd]
            iterate 4 (apply Rg.RK.ok; (· intro vs w1 hS; go_simp; with_reducible rfl); (· rfl); simp only [Act.put, List.setIfInBounds_toArray, List.set_cons_zero, List.set_cons_succ, Nat.reduceAdd])
            apply Rg.RK.opD (fun vs _ => vs 14 = .agg #[vs 9, .int .i64 (xl : Int)]) (fun _ _ => False) [9] [] [9] (fun vs vs' h => by rw [h 14 (by simp), h 9 (by simp)]; exact ⟨rfl, rfl⟩)
            · exact fun vs W1 W2 h hs => h
            · rfl
            · intro vs w9 hK hS9 hf K hKK
              have h9' : w9.ownsRow wr.heap.size 5 1 (vs 9) nb (bvs xb) := hf.1
              obtain ⟨A9, c9, hv9⟩ := own_form h9'
              (try dsimp only at hKK ⊢)
              have hK9 : Hid (∀ u, u = Value.agg #[vs 9, .int .i64 (xl : Int)] → K _ w9) := fun u hu => hKK.out u w9 (by
                rw [Rg.upd_same, Rg.upd_ne _ _ (by decide)]
                exact hu) (Rg.Keeps.refl _ _) (fun g hg => hg.elim)
              (try dsimp only at hK9)
              rw [hv9] at hK9 ⊢
              clear hKK hv9 h9' hf
              go_simp
              exact hK9.out _ rfl
            simp only [Act.put, List.setIfInBounds_toArray, List.set_cons_zero, List.set_cons_succ, Nat.reduceAdd]
            apply Rg.RK.opD (fun vs W => ∃ g, vs 15 = .pointer (some ⟨g, 0, none⟩) ∧ wr.heap.size ≤ g ∧ W.heap[g]? = some (.cells #[vs 9, .int .i64 (xl : Int)] 78 (0, 0))) (fun vs g => Rg.ob (vs 15) g) [14] [] [9] (fun vs vs' h => by rw [h 15 (by simp), h 9 (by simp)]; exact ⟨rfl, rfl⟩)
            · rintro vs W1 W2 ⟨g, hv, hg, hb⟩ hs
              exact ⟨g, hv, hg, (hs.block g (Array.getElem?_eq_some_iff.1 hb).1 (.inr (by rw [hv]; exact rfl))).trans hb⟩
            · rfl
            · intro vs w9 hK hS9 hf K hKK
              have h14 : vs 14 = .agg #[vs 9, .int .i64 (xl : Int)] := hf.1
              (try dsimp only at hKK ⊢)
              rw [h14] at hKK ⊢
              have hK9 := fun W hu hh hl => hKK.out (.pointer (some ⟨w9.heap.size, 0, none⟩)) W ⟨w9.heap.size, by rw [Rg.upd_same], hK.size, hh⟩ (Rg.Keeps.of_up hu) (fun g hg => by
                rw [Rg.upd_same] at hg
                obtain rfl : w9.heap.size = g := hg
                exact ⟨hl, .inl (Nat.le_refl _)⟩)
              have HK9 := Lib.hid hK9
              clear hKK h14 hf hK9
              go_simp
              exact HK9.out _ ((Up.refl _).alloc _) (heap_alloc_new _ _) (by simp)
            simp only [Act.put, List.setIfInBounds_toArray, List.set_cons_zero, List.set_cons_succ, Nat.reduceAdd]
            apply Rg.RK.opD (fun vs W => W.ownsRow wr.heap.size 73 1 (vs 16) 1 [vs 15] ∧ (vs 15).oneCell' = true) (fun vs g => Rg.ob (vs 16) g) [15] [] [15] (fun vs vs' h => by rw [h 16 (by simp), h 15 (by simp)]; exact ⟨rfl, rfl⟩)
            · rintro vs W1 W2 ⟨h1, h2⟩ hs
              exact ⟨row_sta h1 hs, h2⟩
            · rfl
            · intro vs w9 hK hS9 hf K hKK
              obtain ⟨⟨g, hv15, hg, hb15⟩, -⟩ := hf
              (try dsimp only at hKK ⊢)
              have hK9 : Hid (∀ (v : Value) W, W.ownsRow wr.heap.size 73 1 v 1 [vs 15] → Up w9 W → (∀ g, Rg.ob v g → g < W.heap.size ∧ w9.heap.size ≤ g) → K _ W) := fun v W ho hu hg9 => hKK.out v W ⟨by rw [Rg.upd_same, Rg.upd_ne _ _ (by decide)]; exact ho, by rw [Rg.upd_ne _ _ (by decide), hv15]; rfl⟩ (Rg.Keeps.of_up hu) (fun g hg => by
                rw [Rg.upd_same] at hg
                exact ⟨(hg9 g hg).1, .inl (hg9 g hg).2⟩)
              (try dsimp only at hK9)
              rw [hv15] at hK9 ⊢
              clear hKK hv15 hb15
              go_simp
              exact hK9.out _ _ (row_new w9 _ _ hK.size rfl (by omega)) ((Up.refl _).alloc _) (by rintro g rfl; exact ⟨by simp, Nat.le_refl _⟩)
            simp only [Act.put, List.setIfInBounds_toArray, List.set_cons_zero, List.set_cons_succ, Nat.reduceAdd]
            apply Rg.RK.opD (fun vs W => W.heap[gc]? = some (.cells (dcs dq hq) 71 (0, 0)) ∧ W.ownsRow w.heap.size 73 1 (vs 17) (i + 1) (pfs hq.fl ++ [vs 15])) (fun vs g => g = gc ∨ Rg.ob (vs 17) g) [21, 16] [21] [15] (fun vs vs' h => by rw [h 17 (by simp), h 15 (by simp)]; exact ⟨rfl, rfl⟩)
            · rintro vs v1 v2 ⟨f1, f2⟩ hs
              exact ⟨(hs.block gc (Array.getElem?_eq_some_iff.1 f1).1 (.inr (.inl rfl))).trans f1, row_sta (Y := fun g => (g < wr.drew.heap.size ∧ ¬ (g = gc ∨ inA hq.fa g)) ∨ (g = gc ∨ Rg.ob (vs 17) g)) f2 ⟨hs.size, fun g hg hy => hs.block g hg (hy.elim id (fun ho => .inr (.inr ho)))⟩⟩
            · rfl
            · intro vs w9 hK hS9 hf K hKK
              obtain ⟨⟨hh, hrow⟩, ⟨h16, h15⟩, -⟩ := hf
              have h16' : w9.ownsRow wr.heap.size 73 1 (vs 16) 1 [vs 15] := h16
              obtain ⟨A16, c16, hv16⟩ := own_form h16'
              rw [hv16] at h16'
              (try dsimp only at hKK ⊢)
              rw [hv16] at hKK ⊢
              refine wp_append_rd _ _ _ filesT rfl rfl rfl hrow (Rd.own h16') (by intro y hy; rw [List.mem_singleton] at hy; subst hy; exact h15) (by omega) (by omega) (Nat.le_trans hbB hK.size) fun v' w5 ho' hg' hat' => ?_
              have hKr := keepsRow hrow hg'
              refine hKK.out _ _ ⟨?_, by rw [Rg.upd_same, Rg.upd_ne _ _ (by decide)]; exact ho'⟩ (Keeps.weak hKr fun y hy => ⟨21, List.mem_singleton.2 rfl, .inr hy⟩) (fun y hy => ?_)
              · refine (hKr.block gc (Array.getElem?_eq_some_iff.1 hh).1 (fun hx => ?_)).trans hh
                have h1 := kd_row hrow hx
                rw [kd_cells hh] at h1
                exact absurd h1 (by decide)
              · rw [Rg.upd_same] at hy
                rcases hy with rfl | hy
                · exact ⟨Nat.lt_of_lt_of_le (Array.getElem?_eq_some_iff.1 hh).1 hKr.size, .inr ⟨21, List.mem_singleton.2 rfl, .inl rfl⟩⟩
                · obtain ⟨A', c', rfl⟩ := own_form ho'
                  refine ⟨(inA_own ho' (ob_inA hy)).2, ?_⟩
                  rcases at_inA hat' y (ob_inA hy) with h9 | h9
                  · exact .inr ⟨21, List.mem_singleton.2 rfl, .inr h9⟩
                  · exact .inl h9
            simp only [Act.put, List.setIfInBounds_toArray, List.set_cons_zero, List.set_cons_succ, Nat.reduceAdd]
            iterate 2 (apply Rg.RK.ok; (· intro vs w1 hS; go_simp; with_reducible rfl); (· rfl); simp only [Act.put, List.setIfInBounds_toArray, List.set_cons_zero, List.set_cons_succ, Nat.reduceAdd])
            apply Rg.RK.opD (fun vs W => ∃ T2 tc2, vs 17 = .slice T2 (i + 1) tc2 ∧ W.heap[gc]? = some (.cells (dcs { dq with files := dq.files ++ [⟨xb, xl⟩] } { hq with fa := T2, fc := tc2 }) 71 (0, 0)) ∧ W.ownsRow w.heap.size 73 1 (.slice T2 (i + 1) tc2) (i + 1) (pfs hq.fl ++ [vs 15])) (fun vs g => g = gc ∨ Rg.ob (vs 17) g) [17] [17] [15, 17] (fun vs vs' h => by rw [h 17 (by simp), h 15 (by simp)]; exact ⟨rfl, rfl⟩)
            · rintro vs v1 v2 ⟨T2, tc2, f0, f1, f2⟩ hs
              exact ⟨T2, tc2, f0, (hs.block gc (Array.getElem?_eq_some_iff.1 f1).1 (.inr (.inl rfl))).trans f1, row_sta (Y := fun g => (g < wr.drew.heap.size ∧ ¬ (g = gc ∨ inA hq.fa g)) ∨ (g = gc ∨ Rg.ob (vs 17) g)) f2 ⟨hs.size, fun g hg hy => hs.block g hg (hy.elim id (fun ho => .inr (.inr (by rw [f0]; exact ho))))⟩⟩
            · rfl
            · intro vs w9 hK hS9 hf K hKK
              obtain ⟨⟨hh, hrow⟩, -⟩ := hf
              have hrow' : w9.ownsRow w.heap.size 73 1 (vs 17) (i + 1) (pfs hq.fl ++ [vs 15]) := hrow
              obtain ⟨T2, tc2, hv17⟩ := own_form hrow'
              have t4 : w9.cell? ⟨gc, 1, none⟩ = some (.slice hq.fa dq.files.length hq.fc) := blk_cell hh 1
              have s4 := blk_free hh 1
              have hset := setc_heap w9 gc 1 (.slice T2 (i + 1) tc2) _ _ hh
              have hK9 : Rg.Keeps (fun k => k = gc) w9 (w9.setCell ⟨gc, 1, none⟩ (.slice T2 (i + 1) tc2)) := setc_keeps _ _ _ _ _ (Rg.Keeps.refl _ _)
              rw [hv17] at hrow'
              have hrow2 := own_keepsX hrow' hK9 (fun k hk e => by
                have h1 := kd_row hrow' hk
                rw [e, kd_cells hh] at h1
                exact absurd h1 (by decide))
              (try dsimp only at hKK ⊢)
              rw [hv17] at hKK ⊢
              have HV := Lib.hid hv17
              have HHH := Lib.hid hh
              clear hv17 hrow hh
              go_simp
              refine hKK.out undef _ ⟨T2, tc2, ?_, ?_, by rw [Rg.upd_ne _ _ (by decide)]; exact hrow2⟩ (Keeps.weak hK9 fun y hy => ⟨17, List.mem_singleton.2 rfl, .inl hy⟩) (fun y hy => ?_)
              · rw [Rg.upd_ne _ _ (by decide)]; exact HV.out
              · rw [hset]
                have := HQL.out
                simp [dcs, this]
              · have hy' : y = gc ∨ Rg.ob (vs 17) y := by simpa only [Rg.upd_ne _ _ (show 17 ≠ 20 by decide)] using hy
                rcases hy' with rfl | hy'
                · exact ⟨Nat.lt_of_lt_of_le (Array.getElem?_eq_some_iff.1 HHH.out).1 hK9.size, .inr ⟨17, List.mem_singleton.2 rfl, .inl rfl⟩⟩
                · rw [HV.out] at hy'
                  refine ⟨(inA_own hrow2 (ob_inA hy')).2, .inr ⟨17, List.mem_singleton.2 rfl, .inr ?_⟩⟩
                  show Rg.ob (vs 17) y
                  rw [HV.out]; exact hy'
            simp only [Act.put, List.setIfInBounds_toArray, List.set_cons_zero, List.set_cons_succ, Nat.reduceAdd]
            apply Rg.RK.fin [9, 15, 20]
            intro vs w9 hK hS9 hf
            obtain ⟨h9, ⟨gf, hv15, hgf, hbf⟩, ⟨T2, tc2, hv17, hh, hrow⟩, -⟩ := hf
            have h9' : w9.ownsRow wr.heap.size 5 1 (vs 9) nb (bvs xb) := h9
            obtain ⟨A9, c9, hv9⟩ := own_form h9'
            refine hQN.out _ _ ?_
            clear hQN hS9
            (try dsimp only)
            rw [hv9] at h9' hbf
            rw [hv15] at hrow
            rw [hv9, hv15, hv17]
            have HWU9 := HWU.out w9 (HKW.out w9 hK)
            rw [HNB.out] at h9' hbf
            have hFA : FileAt w.heap.size ⟨gf, A9, c9⟩ ⟨xb, xl⟩ w9 := ⟨hbf, own_base h9' hbB, Nat.le_trans hbB hgf⟩
            have H3d := HHQ.out.up (Up.drew (Up.refl wr))
            have hK3 : Rg.Keeps (fun k => k = hq.g ∨ inA hq.fa k) wr.drew w9 := by rw [HG.out]; exact hK
            rw [← HQL.out] at hrow
            have H4 := H3d.addFileF hFA hgf (fun k hk => (inA_own h9' hk).1) (by rw [HG.out]; exact hh) hrow hK3
            have hdd : { dq with files := dq.files ++ [⟨xb, xl⟩] } = { d with files := d.files.take (i + 1) } := by
              rw [HDQ.out]
              have e : d.files.take (i + 1) = d.files.take i ++ [⟨xb, xl⟩] := by rw [List.take_add_one, HX.out]; rfl
              rw [e]
            rw [hdd] at H4
            generalize vs 14 = u14 at *
            generalize vs 16 = u16 at *
            generalize vs 20 = u20 at *
            clear hv9 hv15 hv17 h9 h9' hh hrow hbf hFA H3d hK3 hK hdd kf0 kf1 HRB HWU HKW HXB hxo hrow0 hS3 hHd hup
            go_wp2_with fail
            go_roundw
            case rel => exact ⟨i + 1, { hq with fa := T2, fc := tc2, fl := hq.fl ++ [⟨gf, A9, c9⟩] }, by go_num, by omega, HG, H4, HWU9⟩
            case measure => simp [intOf]; omega
          · kernel_rfl
        · have hlti : ¬ (i : Int) < (n : Int) := by omega
          have hdd : { d with files := d.files.take i } = d := by rw [List.take_of_length_le (by have := HN.out; omega)]
          rw [hdd] at H
          clear hdd
          go_wp2_with fail
          go_ret
          refine ⟨hq, ?_, H, hup⟩
          rw [HG.out]
          rfl
    · kernel_rfl
  · kernel_rfl
end Go.Proofs.Ytebhhfmekmpnkaa

/-
  The walk of the disk's List.
-/
namespace Go.Proofs.Ytebhhfmekmpnkaa
open Go.RowKit Go.Maps
set_option linter.unusedVariables false
set_option linter.unusedSimpArgs false

theorem encStr_tx (l : List UInt8) : Go.Proofs.encStr l = .string (tx l) := rfl
set_option maxRecDepth 100000 in
set_option maxHeartbeats 1600000 in
theorem dlist_any {B : Nat} {h : Hp} {d : Dk} {w : World} (H : DiskAt B h d w) (hok : DkOk d) (hdead : d.dead = false) :
    Calls Try.prog 30 #[.pointer (some ⟨h.g, 0, none⟩)] w fun e w' => ∃ (A : Option Addr) (c : Nat) (ss : List (List UInt8)), e = .returned (.slice A ss.length c) ∧ ss.Perm (strKeys d.names) ∧ w'.ownsRow w.heap.size 9 1 (.slice A ss.length c) ss.length (svs (ss.mergeSort fun x y => decide (x ≤ y))) ∧ Up w w' := by
  have hsn := hok.sn
  have hcell : w.cell? ⟨h.g, 2, none⟩ = some (.map (some h.nb)) := by
    have hc := blk_cell H.hd 2
    exact hc
  have HD := Lib.hid (dead_any H)
  have HK := Lib.hid ((callsIn_wide (n := 5)).1 (it_maps_Keys (some h.nb) w))
  have HS := Lib.hid ((callsIn_wide (n := 5)).1 (it_sorted h.nb _ d.names _ w H.names (by simp only [maxLen]; omega) (by omega)))
  have HDD := Lib.hid hdead
  clear H hok hsn hdead
  go_enter Try.func30, Try.ntmps30
  go_wp2_with fail
  refine HD.out.mono ?_
  rintro e w1 ⟨rfl, rfl⟩
  rw [HDD.out]
  go_wp2_with fail
  refine HK.out.mono ?_
  rintro e w2 ⟨rfl, rfl⟩
  go_wp2_with fail
  refine HS.out.mono ?_
  rintro e w3 ⟨v, ss, rfl, hp, hrow, hnil, hb⟩
  obtain ⟨A, c, rfl⟩ := own_form hrow
  go_wp2_with fail
  go_ret
  refine ⟨A, c, ss, rfl, hp, ?_, ((Up.refl _).alloc _).trans hb⟩
  have e : (ss.mergeSort fun x y => decide (x ≤ y)).map Go.Proofs.encStr = svs (ss.mergeSort fun x y => decide (x ≤ y)) := rfl
  rw [e] at hrow
  exact own_base hrow (by simp)
end Go.Proofs.Ytebhhfmekmpnkaa

/-
  The walk of the law's Same.
-/
namespace Go.Proofs.Ytebhhfmekmpnkaa
open Go.RowKit Go.Maps
set_option linter.unusedVariables false
set_option linter.unusedSimpArgs false

set_option maxRecDepth 100000 in
theorem dlistS_any {B k : Nat} {h : Hp} {d : Dk} {r : Rk} {w : World} (H : DiskAt B h d w) (S : Sm k d r) (hok : DkOk d) :
    Calls Try.prog 30 #[.pointer (some ⟨h.g, 0, none⟩)] w fun e w' => ∃ A c, e = .returned (.slice A (listR r).length c) ∧ w'.ownsRow w.heap.size 9 1 (.slice A (listR r).length c) (listR r).length (svs (listR r)) ∧ Up w w' := by
  cases hd : d.dead with
  | false =>
    refine (dlist_any H hok hd).mono ?_
    rintro e w' ⟨A, c, ss, rfl, hp, ho, hu⟩
    have hl := S.list hd hp
    have hlen : ss.length = (listR r).length := by rw [← hl]; exact (List.mergeSort_perm ss _).length_eq.symm
    rw [hl, hlen] at ho
    rw [hlen]
    exact ⟨A, c, rfl, ho, hu⟩
  | true =>
    have hl : listR r = [] := by unfold listR; rw [if_pos (by rw [← S.dd, hd])]
    have HL := Lib.hid hl
    have HD := Lib.hid (dead_any H)
    rw [hd] at HD
    clear hl hd H hok S
    go_enter Try.func30, Try.ntmps30
    go_wp2_with fail
    refine HD.out.mono ?_
    rintro e w1 ⟨rfl, rfl⟩
    go_wp2_with fail
    go_ret
    rw [HL.out]
    exact ⟨none, 0, rfl, World.ownsRow_nil _ _ _ _, Up.refl _⟩
theorem Rd.str_at {w : World} {B n : Nat} {A : Option Addr} {l : List (List UInt8)} (h : Rd w B 1 A n (svs l)) {i : Nat} (hi : i < l.length) : ∃ b o, A = some ⟨b, o, none⟩ ∧ b < B ∧ w.cell? ⟨b, o + i, none⟩ = some (.string (tx l[i])) := by
  have hn : n = l.length := by have := h.1; simp [svs] at this; omega
  obtain ⟨b, o, e, hb, hc⟩ := h.2 (by omega)
  exact ⟨b, o, e, hb, hc i _ (by simp [svs, hi])⟩
set_option maxRecDepth 100000 in
set_option maxHeartbeats 4000000 in
theorem same4_any {B k : Nat} {h : Hp} {d : Dk} {hr : Rh} {r : Rk} {w : World} (T : Two B h d hr r w) (S : Sm k d r) (hok : DkOk d) (hk : k ≤ 900000) :
    Calls Try.prog 34 #[.pointer (some ⟨h.g, 0, none⟩), .pointer (some ⟨hr.g, 0, none⟩)] w fun e w' => e = .returned (.bool true) ∧ Up w w' := by
  have hrok := S.rok hok (by omega)
  have hnl := T.list_le S
  have hnb : (listR r).length ≤ 1000000 := by
    unfold listR
    split
    · exact Nat.zero_le _
    · rw [List.length_map]; exact hrok.nn
  obtain ⟨U, hU⟩ : ∃ U, U = usedRO r := ⟨_, rfl⟩
  obtain ⟨L, hL⟩ : ∃ L, L = listR r := ⟨_, rfl⟩
  obtain ⟨n, hn⟩ : ∃ n, n = L.length := ⟨_, rfl⟩
  obtain ⟨cl, hcl⟩ : ∃ cl, cl = r.calls := ⟨_, rfl⟩
  obtain ⟨dd, hdd⟩ : ∃ dd, dd = r.dead := ⟨_, rfl⟩
  have HL1 : Hid (Calls Try.prog 30 #[.pointer (some ⟨h.g, 0, none⟩)] w fun e w' => ∃ A c, e = .returned (.slice A n c) ∧ w'.ownsRow w.heap.size 9 1 (.slice A n c) n (svs L) ∧ Up w w') := by
    rw [hn, hL]; exact dlistS_any T.D S hok
  have HL2 : Hid (∀ W, Up w W → Calls Try.prog 58 #[.pointer (some ⟨hr.g, 0, none⟩)] W fun e w' => ∃ A c, e = .returned (.slice A n c) ∧ w'.ownsRow W.heap.size 9 1 (.slice A n c) n (svs L) ∧ Up W w') := by
    intro W hW
    rw [hn, hL]; exact rlist_any (T.R.up hW) hrok.toRkB
  have HU1 : Hid (∀ W, Up w W → Calls Try.prog 24 #[.pointer (some ⟨h.g, 0, none⟩)] W fun e w' => e = .returned (.int .i64 (U : Int)) ∧ Up W w') := by
    intro W hW
    rw [hU, ← S.usedO]; exact usedO_any (T.D.up hW) hok
  have HU2 : Hid (∀ W, Up w W → Calls Try.prog 59 #[.pointer (some ⟨hr.g, 0, none⟩)] W fun e w' => e = .returned (.int .i64 (U : Int)) ∧ Up W w') := by
    intro W hW
    rw [hU]; exact rusedO_any (T.R.up hW) hrok.toRkB
  have HC1 : Hid (∀ W, Up w W → Calls Try.prog 20 #[.pointer (some ⟨h.g, 0, none⟩)] W fun e w' => e = .returned (.int .i64 (cl : Int)) ∧ w' = W) := by
    intro W hW
    rw [hcl, ← S.cl]; exact calls_any (T.D.up hW)
  have HC2 : Hid (∀ W, Up w W → Calls Try.prog 19 #[.pointer (some ⟨h.g, 0, none⟩)] W fun e w' => e = .returned (.bool dd) ∧ w' = W) := by
    intro W hW
    rw [hdd, ← S.dd]; exact dead_any (T.D.up hW)
  have HRD1 : Hid (∀ s, s ∈ L → ∀ W, Up w W → Calls Try.prog 22 #[.pointer (some ⟨h.g, 0, none⟩), .string (tx s)] W fun e w' => ∃ R rn rc, e = .returned (.tuple #[.slice R rn rc, .int .i64 ((readR r s).2 : Int)]) ∧ OwnB w' W.heap.size R rn rc (readR r s).1 ∧ Up W w') := by
    intro s hs W hW
    rw [← S.read s]; exact dread_any (T.D.up hW) hok s (hnl s (by rw [← hL]; exact hs))
  have HRD2 : Hid (∀ s, s ∈ L → ∀ W, Up w W → Calls Try.prog 53 #[.pointer (some ⟨hr.g, 0, none⟩), .string (tx s)] W fun e w' => e = .returned (.tuple #[.string (tx (readR r s).1), .int .i64 ((readR r s).2 : Int)]) ∧ Up W w') := by
    intro s hs W hW
    exact rread_any (T.R.up hW) hrok.toRkB s (hnl s (by rw [← hL]; exact hs))
  have r5 : ∀ W, Up w W → W.cell? ⟨hr.g, 5, none⟩ = some (.int .i64 (cl : Int)) := fun W hW => by rw [hcl]; exact blk_cell (T.R.up hW).hd 5
  have r8 : ∀ W, Up w W → W.cell? ⟨hr.g, 8, none⟩ = some (.bool dd) := fun W hW => by rw [hdd]; exact blk_cell (T.R.up hW).hd 8
  rw [← hL, ← hn] at hnb
  have HNN := Lib.hid hn
  clear hL hcl hdd hU hnl hrok S hok T hn
  go_enter Try.func34, Try.ntmps34
  go_wp2_with fail
  refine HL1.out.mono ?_
  rintro e w1 ⟨A1, c1, rfl, ho1, hu1⟩
  have HL2b := HL2.out w1 hu1
  go_wp2_with fail
  refine HL2b.mono ?_
  rintro e w2 ⟨A2, c2, rfl, ho2, hu2⟩
  have hu12 := hu1.trans hu2
  have hd1 : Rd w2 w2.heap.size 1 A1 n (svs L) := Rd.own (own_up ho1 hu2)
  have hd2 : Rd w2 w2.heap.size 1 A2 n (svs L) := Rd.own ho2
  have HD1 := Lib.hid hd1
  have HD2 := Lib.hid hd2
  clear HL1 HL2 HL2b ho1 ho2 hu1 hu2 hd1 hd2
  have hS : ∀ W, Up w2 W → Up w W := fun W hW => hu12.trans hW
  have hnn : ((n : Int) != (n : Int)) = false := by simp
  have hUU : ((U : Int) != (U : Int)) = false := by simp
  have hcc : ((cl : Int) != (cl : Int)) = false := by simp
  have hbb : (dd != dd) = false := by simp
  go_upto_region 2 with fail
  apply Rg.region_up _ (by kernel_rfl) (by kernel_rfl) hS
  · intro QN hQN
    iterate 6 (apply Rg.RK.ok; (· intro vs w1 hS; go_simp; with_reducible rfl); (· rfl); simp only [Act.put, List.setIfInBounds_toArray, List.set_cons_zero, List.set_cons_succ, Nat.reduceAdd])
    iterate 1 (apply Rg.RK.gok (t := 21); (· intro vs w1 hS; go_simp; with_reducible rfl); (· rfl); (· intro vs; rfl); simp only [Act.put, List.setIfInBounds_toArray, List.set_cons_zero, List.set_cons_succ, Nat.reduceAdd])
    apply Rg.RK.gcall (t := 21) (.int .i64 (U : Int)) []
    · rfl
    · intro vs; rfl
    · intro vs w1 hK hS _ K hKK
      go_simp
      refine (HU1.out w1 hS).mono ?_
      rintro e w2 ⟨rfl, hu2⟩
      exact hKK.out _ hu2
    simp only [Act.put, List.setIfInBounds_toArray, List.set_cons_zero, List.set_cons_succ, Nat.reduceAdd]
    iterate 1 (apply Rg.RK.gok (t := 21); (· intro vs w1 hS; go_simp; with_reducible rfl); (· rfl); (· intro vs; rfl); simp only [Act.put, List.setIfInBounds_toArray, List.set_cons_zero, List.set_cons_succ, Nat.reduceAdd])
    apply Rg.RK.gcall (t := 21) (.int .i64 (U : Int)) []
    · rfl
    · intro vs; rfl
    · intro vs w1 hK hS _ K hKK
      go_simp
      refine (HU2.out w1 hS).mono ?_
      rintro e w2 ⟨rfl, hu2⟩
      exact hKK.out _ hu2
    simp only [Act.put, List.setIfInBounds_toArray, List.set_cons_zero, List.set_cons_succ, Nat.reduceAdd]
    iterate 1 (apply Rg.RK.gok (t := 21); (· intro vs w1 hS; go_simp; with_reducible rfl); (· rfl); (· intro vs; rfl); simp only [Act.put, List.setIfInBounds_toArray, List.set_cons_zero, List.set_cons_succ, Nat.reduceAdd])
    iterate 2 (apply Rg.RK.ok; (· intro vs w1 hS; go_simp; with_reducible rfl); (· rfl); simp only [Act.put, List.setIfInBounds_toArray, List.set_cons_zero, List.set_cons_succ, Nat.reduceAdd])
    iterate 1 (apply Rg.RK.gok (t := 28); (· intro vs w1 hS; go_simp; with_reducible rfl); (· rfl); (· intro vs; rfl); simp only [Act.put, List.setIfInBounds_toArray, List.set_cons_zero, List.set_cons_succ, Nat.reduceAdd])
    apply Rg.RK.gcall (t := 28) (.int .i64 (cl : Int)) []
    · rfl
    · intro vs; rfl
    · intro vs w9 hK hS _ K hKK
      go_simp
      refine (HC1.out w9 hS).mono ?_
      rintro e w2 ⟨rfl, rfl⟩
      exact hKK.out _ (Up.refl _)
    simp only [Act.put, List.setIfInBounds_toArray, List.set_cons_zero, List.set_cons_succ, Nat.reduceAdd]
    iterate 5 (apply Rg.RK.gok (t := 28); (· intro vs w1 hS; go_simp; with_reducible rfl); (· rfl); (· intro vs; rfl); simp only [Act.put, List.setIfInBounds_toArray, List.set_cons_zero, List.set_cons_succ, Nat.reduceAdd])
    iterate 2 (apply Rg.RK.ok; (· intro vs w1 hS; go_simp; with_reducible rfl); (· rfl); simp only [Act.put, List.setIfInBounds_toArray, List.set_cons_zero, List.set_cons_succ, Nat.reduceAdd])
    iterate 1 (apply Rg.RK.gok (t := 37); (· intro vs w1 hS; go_simp; with_reducible rfl); (· rfl); (· intro vs; rfl); simp only [Act.put, List.setIfInBounds_toArray, List.set_cons_zero, List.set_cons_succ, Nat.reduceAdd])
    apply Rg.RK.gcall (t := 37) (.bool dd) []
    · rfl
    · intro vs; rfl
    · intro vs w9 hK hS _ K hKK
      go_simp
      refine (HC2.out w9 hS).mono ?_
      rintro e w2 ⟨rfl, rfl⟩
      exact hKK.out _ (Up.refl _)
    simp only [Act.put, List.setIfInBounds_toArray, List.set_cons_zero, List.set_cons_succ, Nat.reduceAdd]
    iterate 5 (apply Rg.RK.gok (t := 37); (· intro vs w1 hS; go_simp; with_reducible rfl); (· rfl); (· intro vs; rfl); simp only [Act.put, List.setIfInBounds_toArray, List.set_cons_zero, List.set_cons_succ, Nat.reduceAdd])
    iterate 1 (apply Rg.RK.ok; (· intro vs w1 hS; go_simp; with_reducible rfl); (· rfl); simp only [Act.put, List.setIfInBounds_toArray, List.set_cons_zero, List.set_cons_succ, Nat.reduceAdd])
    apply Rg.RK.fin []
    intro vs w9 hK hU9 _
    refine hQN.out _ _ ?_
    clear hQN
    have hu29 : Up w2 w9 := keeps_up hK
    clear hK hU9 HU1 HU2 HC1 HC2 r5 r8 hS hUU hcc hbb hnn
    go_wp2_with fail
    go_loopw [7] (fun iv wr => ∃ i : Nat, iv = .int .i64 (i : Int) ∧ i ≤ n ∧ Up w2 wr) (fun iv _ => n - (intOf iv).toNat)
    case atStart => exact ⟨0, rfl, Nat.zero_le _, hu29⟩
    case round =>
      obtain ⟨i, rfl, hi, hup⟩ := hrel
      clear hu29
      by_cases hlt : i < n
      · have hlti : (i : Int) < (n : Int) := by omega
        have hil : i < L.length := by have := HNN.out; omega
        obtain ⟨b1, o1, rfl, hb1, q1⟩ := HD1.out.str_at hil
        obtain ⟨b2, o2, rfl, hb2, q2⟩ := HD2.out.str_at hil
        have hmem : L[i] ∈ L := List.getElem_mem hil
        generalize L[i] = nm at *
        have m1 : ∀ W, Up wr W → W.cell? ⟨b1, o1 + i, none⟩ = some (.string (tx nm)) := fun W hW => ((hup.trans hW).cell (p := ⟨b1, o1 + i, none⟩) hb1).trans q1
        have m2 : ∀ W, Up wr W → W.cell? ⟨b2, o2 + i, none⟩ = some (.string (tx nm)) := fun W hW => ((hup.trans hW).cell (p := ⟨b2, o2 + i, none⟩) hb2).trans q2
        have m2r := m2 wr (Up.refl _)
        have hup0 : Up w wr := hu12.trans hup
        have hc1 := HRD1.out nm hmem wr hup0
        have HC2 : Hid (∀ W, Up w W → Calls Try.prog 53 #[.pointer (some ⟨hr.g, 0, none⟩), .string (tx nm)] W fun e w' => e = .returned (.tuple #[.string (tx (readR r nm).1), .int .i64 ((readR r nm).2 : Int)]) ∧ Up W w') := Lib.hid (HRD2.out nm hmem)
        generalize (readR r nm).1 = eb at *
        generalize (readR r nm).2 = es at *
        have HC1 := Lib.hid hc1
        clear hc1 q1 q2 hmem hb1 hb2 hil
        go_wp2_with fail
        refine HC1.out.mono ?_
        rintro e w3 ⟨R, rn, rc, rfl, ho3, hu3⟩
        have m2c := m2 w3 hu3
        have hc2 := HC2.out w3 (hup0.trans hu3)
        clear HC1 HC2 m2r
        go_wp2_with fail
        refine hc2.mono ?_
        rintro e w4 ⟨rfl, hu4⟩
        have hu34 := hu3.trans hu4
        have hrd4 : Rd w4 w4.heap.size 1 R rn (bvs eb) := (OwnB.rd ho3).up hu4
        have HRD4 : Hid (∀ W, Up w4 W → Rd W W.heap.size 1 R rn (bvs eb)) := Lib.hid (fun W hW => hrd4.up hW)
        have p1 : ∀ W, Up w4 W → W.cell? ⟨b1, o1 + i, none⟩ = some (.string (tx nm)) := fun W hW => m1 W (hu34.trans hW)
        have p2 : ∀ W, Up w4 W → W.cell? ⟨b2, o2 + i, none⟩ = some (.string (tx nm)) := fun W hW => m2 W (hu34.trans hW)
        have hS : ∀ W, Up w4 W → Up w4 W := fun _ h => h
        have hsn : ((tx nm).toList != (tx nm).toList) = false := by simp
        have hse : ((tx eb).toList != (tx eb).toList) = false := by simp
        have hee : ((es : Int) != (es : Int)) = false := by simp
        clear hc2 m1 m2 m2c ho3 hu3 hrd4
        go_upto_region 9 with fail
        apply Rg.region_up _ (by kernel_rfl) (by kernel_rfl) hS
        · intro QN hQN
          iterate 10 (apply Rg.RK.ok; (· intro vs w1 hS; go_simp; with_reducible rfl); (· rfl); simp only [Act.put, List.setIfInBounds_toArray, List.set_cons_zero, List.set_cons_succ, Nat.reduceAdd])
          iterate 1 (apply Rg.RK.gok (t := 79); (· intro vs w1 hS; go_simp; with_reducible rfl); (· rfl); (· intro vs; rfl); simp only [Act.put, List.setIfInBounds_toArray, List.set_cons_zero, List.set_cons_succ, Nat.reduceAdd])
          apply Rg.RK.gok (t := 79) (v := .string (tx (eb)))
          · intro vs w1 hS
            exact exec_str rfl rfl (HRD4.out w1 hS)
          · rfl
          · intro vs; rfl
          simp only [Act.put, List.setIfInBounds_toArray, List.set_cons_zero, List.set_cons_succ, Nat.reduceAdd]
          iterate 2 (apply Rg.RK.gok (t := 79); (· intro vs w1 hS; go_simp; with_reducible rfl); (· rfl); (· intro vs; rfl); simp only [Act.put, List.setIfInBounds_toArray, List.set_cons_zero, List.set_cons_succ, Nat.reduceAdd])
          iterate 2 (apply Rg.RK.ok; (· intro vs w1 hS; go_simp; with_reducible rfl); (· rfl); simp only [Act.put, List.setIfInBounds_toArray, List.set_cons_zero, List.set_cons_succ, Nat.reduceAdd])
          iterate 3 (apply Rg.RK.gok (t := 85); (· intro vs w1 hS; go_simp; with_reducible rfl); (· rfl); (· intro vs; rfl); simp only [Act.put, List.setIfInBounds_toArray, List.set_cons_zero, List.set_cons_succ, Nat.reduceAdd])
          iterate 1 (apply Rg.RK.ok; (· intro vs w1 hS; go_simp; with_reducible rfl); (· rfl); simp only [Act.put, List.setIfInBounds_toArray, List.set_cons_zero, List.set_cons_succ, Nat.reduceAdd])
          apply Rg.RK.fin []
          intro vs w9 hK hU9 _
          refine hQN.out _ _ ?_
          clear hQN
          have hu9 : Up w2 w9 := hup.trans (hu34.trans hU9)
          clear hsn hse hee p1 p2 HRD4
          go_wp2_with fail
          go_roundw
          case rel => exact ⟨i + 1, by go_num, by omega, hu9⟩
          case measure => simp [intOf]; omega
        · kernel_rfl
      · have hlti : ¬ (i : Int) < (n : Int) := by omega
        go_wp2_with fail
        go_ret
        exact ⟨rfl, hu12.trans hup⟩
  · kernel_rfl
end Go.Proofs.Ytebhhfmekmpnkaa

/-
  The walk of the law's Do.
-/
namespace Go.Proofs.Ytebhhfmekmpnkaa
open Go.RowKit Go.Maps
set_option linter.unusedVariables false
set_option linter.unusedSimpArgs false

set_option maxRecDepth 100000 in
set_option maxHeartbeats 4000000 in
theorem do4_any {B k : Nat} {h : Hp} {d : Dk} {hr : Rh} {r : Rk} {w : World} (T0 : Two B h d hr r w) (S : Sm k d r) (hok : DkOk d) (hk : k ≤ 900000) (kind n : Int) (a b : List UInt8) (A : Option Addr) (ln cp : Nat) (keep : List Int)
    (hn : -9223372036854775808 ≤ n ∧ n ≤ 9223372036854775807) (ha : a.length ≤ 9223372036854775807) (hb : b.length ≤ 9223372036854775807) (hrd : Rd w w.heap.size 1 A ln (izs keep)) (hlc : ln ≤ cp) (hl : ln ≤ 1000000) (hrg : ∀ x ∈ keep, -9223372036854775808 ≤ x ∧ x ≤ 9223372036854775807) (hap : 0 < ln → ∀ x, A = some x → ¬ (foot h x.block ∨ rfoot hr x.block)) :
    Calls Try.prog 32 #[.pointer (some ⟨h.g, 0, none⟩), .pointer (some ⟨hr.g, 0, none⟩), .agg #[.int .i64 kind, .int .i64 n, .string (tx a), .string (tx b), .slice A ln cp]] w
      fun e w' => e = .returned (.bool true) ∧ ∃ h' d' hr' r', Two B h' d' hr' r' w' ∧ TwoTo h hr w h' hr' w' ∧ Sm (k + 2) d' r' ∧ DkOk d' := by
  have hua : Up w (w.alloc (.cells #[.int .i64 kind, .int .i64 n, .string (tx a), .string (tx b), .slice A ln cp] 56)) := (Up.refl w).alloc _
  have hbox := heap_alloc_new w (.cells #[.int .i64 kind, .int .i64 n, .string (tx a), .string (tx b), .slice A ln cp] 56)
  have T := T0.up hua
  have WA : TwoTo h hr w h hr _ := TwoTo.up hua
  have hnf : ¬ (foot h w.heap.size ∨ rfoot hr w.heap.size) := fun e => by have := (T0.lt e).2; omega
  have hgl : w.heap.size < (w.alloc (.cells #[.int .i64 kind, .int .i64 n, .string (tx a), .string (tx b), .slice A ln cp] 56)).heap.size := by simp
  obtain ⟨s1, s2, s3, s4, s5⟩ := S.dsz (by omega)
  have hrok := S.rok hok (by omega)
  have hrd2 := hrd.up hua
  have hAl : 0 < ln → ∀ x, A = some x → x.block < w.heap.size := fun hm x hx => by
    obtain ⟨b', o', e, hb', _⟩ := hrd.2 hm
    rw [hx] at e; injection e with e; rw [e]; exact hb'
  have HAL := Lib.hid hAl
  have HRD := Lib.hid hrd2
  have HAP := Lib.hid hap
  clear hrd hrd2 hap hAl T0
  by_cases k0 : kind = 0
  · subst k0
    have hres := S.create a ha
    have HDO := Lib.hid (createD_ok hok a s2 s3)
    obtain ⟨eo, heo⟩ : ∃ eo, eo = (createR r a).2 := ⟨_, rfl⟩
    have HEO := Lib.hid heo
    have HEC := Lib.hid hres.1
    clear heo
    go_enter Try.func32, Try.ntmps32
    go_upto_region 9 with fail
    generalize hwa : w.alloc (.cells #[.int .i64 (0), .int .i64 n, .string (tx a), .string (tx b), .slice A ln cp] 56) = wa at *
    generalize w.heap.size = gb at *
    have kb1 : ∀ W, TwoTo2 h hr wa W → W.cell? ⟨gb, 1, none⟩ = some (.int .i64 n) := fun W hW => hW.cell hgl hnf (blk_cell hbox 1)
    have kb2 : ∀ W, TwoTo2 h hr wa W → W.cell? ⟨gb, 2, none⟩ = some (.string (tx a)) := fun W hW => hW.cell hgl hnf (blk_cell hbox 2)
    have kb3 : ∀ W, TwoTo2 h hr wa W → W.cell? ⟨gb, 3, none⟩ = some (.string (tx b)) := fun W hW => hW.cell hgl hnf (blk_cell hbox 3)
    have kb4 : ∀ W, TwoTo2 h hr wa W → W.cell? ⟨gb, 4, none⟩ = some (.slice A ln cp) := fun W hW => hW.cell hgl hnf (blk_cell hbox 4)
    apply Rg.region_chain (fun i vs W => TwoTo2 h hr wa W ∧ (i = 0 → Two B h d hr r W) ∧ (i = 1 → ∃ h5, Two B h5 ((createD d a).1) hr r W ∧ TwoTo h hr wa h5 hr W) ∧ (i = 2 → ∃ h5 hr5, Two B h5 ((createD d a).1) hr5 ((createR r a).1) W ∧ TwoTo h hr wa h5 hr5 W)) (by kernel_rfl) (by kernel_rfl) (fun vs => ⟨TwoTo2.up (Up.drew (Up.refl wa)), fun _ => T.up (Up.drew (Up.refl wa)), fun e => absurd e (by decide), fun e => absurd e (by decide)⟩)
    · intro QN hQN
      iterate 3 (apply Rg.RC.ok; (· intro i vs w1 hS; go_simp; with_reducible rfl); (· rfl); simp only [Act.put, List.setIfInBounds_toArray, List.set_cons_zero, List.set_cons_succ, Nat.reduceAdd])
      apply Rg.RC.call (.int .i64 ((eo : Nat) : Int))
      · rfl
      · intro vs w9 hS K hKK
        have T9 := hS.2.1 rfl
        have W9 := hS.1
        clear hS
        go_simp
        have hcon := create_any T9.D hok s1 s2 s3 a ha
        rw [HEC.out, ← HEO.out] at hcon
        refine hcon.mono ?_
        rintro e w5 ⟨h5, rfl, H5, D5⟩
        obtain ⟨T5, K5⟩ := T9.stepD H5 D5
        have K6 := W9.trans K5
        exact hKK.out _ ⟨K6.two, fun e => absurd e (by decide), fun _ => ⟨h5, T5, K6⟩, fun e => absurd e (by decide)⟩
      simp only [Act.put, List.setIfInBounds_toArray, List.set_cons_zero, List.set_cons_succ, Nat.reduceAdd]
      iterate 3 (apply Rg.RC.ok; (· intro i vs w1 hS; go_simp; with_reducible rfl); (· rfl); simp only [Act.put, List.setIfInBounds_toArray, List.set_cons_zero, List.set_cons_succ, Nat.reduceAdd])
      apply Rg.RC.call (.int .i64 ((eo : Nat) : Int))
      · rfl
      · intro vs w9 hS K hKK
        obtain ⟨h5, T9, W9⟩ := hS.2.2.1 rfl
        clear hS
        go_simp
        have hcon := rcreate_any T9.R hrok a ha
        rw [← HEO.out] at hcon
        refine hcon.mono ?_
        rintro e w5 ⟨hr5, rfl, H5, D5⟩
        obtain ⟨T5, K5⟩ := T9.stepR H5 D5
        have K6 := W9.trans K5
        exact hKK.out _ ⟨K6.two, fun e => absurd e (by decide), fun e => absurd e (by decide), fun _ => ⟨h5, hr5, T5, K6⟩⟩
      simp only [Act.put, List.setIfInBounds_toArray, List.set_cons_zero, List.set_cons_succ, Nat.reduceAdd]
      iterate 2 (apply Rg.RC.ok; (· intro i vs w1 hS; go_simp; with_reducible rfl); (· rfl); simp only [Act.put, List.setIfInBounds_toArray, List.set_cons_zero, List.set_cons_succ, Nat.reduceAdd])
      apply Rg.RC.fin
      intro vs w9 hS
      obtain ⟨h5, hr5, T9, W9⟩ := hS.2.2.2 rfl
      clear hS
      refine hQN.out _ _ ?_
      clear hQN
      (try dsimp only)
      have HT := Lib.hid T9
      have HW := Lib.hid W9
      clear T9 W9 T kb1 kb2 kb3 kb4
      go_wp2_with fail
      go_ret
      exact ⟨rfl, h5, _, hr5, _, HT.out, WA.trans HW.out, hres.2, HDO.out⟩
    · kernel_rfl
  have b0 : (kind == 0) = false := by rw [beq_eq_false_iff_ne]; exact k0
  by_cases k1 : kind = 1
  · subst k1
    obtain ⟨C, hC, hCb⟩ := i64_and_le (n / 256) 255 (by omega)
    replace hC : bits .and .i64 (n / 256) 255 = (C : Int) := hC
    obtain ⟨p, hp⟩ : ∃ p, p = bytesL n C := ⟨_, rfl⟩
    have hpl : p.length ≤ 255 := by rw [hp, bytesL_len]; exact hCb
    have HP := Lib.hid hp
    have hres := S.append a p
    have HDO := Lib.hid (appendD_ok hok a p)
    obtain ⟨eo, heo⟩ : ∃ eo, eo = (appendR r a p).2 := ⟨_, rfl⟩
    have HEO := Lib.hid heo
    have HEC := Lib.hid hres.1
    clear heo hp
    go_enter Try.func32, Try.ntmps32
    go_upto_region 11 with fail
    generalize hwa : w.alloc (.cells #[.int .i64 (1), .int .i64 n, .string (tx a), .string (tx b), .slice A ln cp] 56) = wa at *
    generalize w.heap.size = gb at *
    have kb1 : ∀ W, TwoTo2 h hr wa W → W.cell? ⟨gb, 1, none⟩ = some (.int .i64 n) := fun W hW => hW.cell hgl hnf (blk_cell hbox 1)
    have kb2 : ∀ W, TwoTo2 h hr wa W → W.cell? ⟨gb, 2, none⟩ = some (.string (tx a)) := fun W hW => hW.cell hgl hnf (blk_cell hbox 2)
    have kb3 : ∀ W, TwoTo2 h hr wa W → W.cell? ⟨gb, 3, none⟩ = some (.string (tx b)) := fun W hW => hW.cell hgl hnf (blk_cell hbox 3)
    have kb4 : ∀ W, TwoTo2 h hr wa W → W.cell? ⟨gb, 4, none⟩ = some (.slice A ln cp) := fun W hW => hW.cell hgl hnf (blk_cell hbox 4)
    have c1 := kb1 wa (TwoTo2.up (Up.refl wa))
    have hby := bytes_any n C wa (by omega) hn
    rw [← HP.out] at hby
    have HBY := Lib.hid hby
    clear hby
    go_wp2_with fail
    refine HBY.out.mono ?_
    rintro e wb ⟨rfl, hub⟩
    clear HBY hC c1
    have Tb := T.up hub
    have WAB := WA.trans (TwoTo.up hub)
    have kc2 : ∀ W, TwoTo2 h hr wb W → W.cell? ⟨gb, 2, none⟩ = some (.string (tx a)) := fun W hW => hW.cell (Nat.lt_of_lt_of_le hgl hub.size) hnf ((hub.cell (p := ⟨gb, 2, none⟩) hgl).trans (blk_cell hbox 2))
    clear T WA kb1 kb2 kb3 kb4
    go_upto_region 12 with fail
    apply Rg.region_chain (fun i vs W => TwoTo2 h hr wb W ∧ (i = 0 → Two B h d hr r W) ∧ (i = 1 → Two B h d hr r W ∧ TwoTo h hr wb h hr W ∧ ∃ Q c, vs 4 = .slice Q p.length c ∧ Rd W W.heap.size 1 Q p.length (bvs p) ∧ ∀ k, inA Q k → ¬ foot h k) ∧ (i = 2 → ∃ h5, Two B h5 (appendD d a p).1 hr r W ∧ TwoTo h hr wb h5 hr W) ∧ (i = 3 → ∃ h5 hr5, Two B h5 (appendD d a p).1 hr5 (appendR r a p).1 W ∧ TwoTo h hr wb h5 hr5 W)) (by kernel_rfl) (by kernel_rfl) (fun vs => ⟨TwoTo2.up (Up.drew (Up.refl wb)), fun _ => Tb.up (Up.drew (Up.refl wb)), fun e => absurd e (by decide), fun e => absurd e (by decide), fun e => absurd e (by decide)⟩)
    · intro QN hQN
      iterate 4 (apply Rg.RC.ok; (· intro i vs w1 hS; go_simp; with_reducible rfl); (· rfl); simp only [Act.put, List.setIfInBounds_toArray, List.set_cons_zero, List.set_cons_succ, Nat.reduceAdd])
      apply Rg.RC.opn
      · rfl
      · intro vs w9 hS K hKK
        have T9 := hS.2.1 rfl
        have W9 := hS.1
        clear hS
        obtain ⟨c5, w5, hconv, hcap, hrd5, hu5, -, -⟩ := conv_b w9 p
        have K5 := W9.trans (TwoTo.up (h := h) (hr := hr) hu5)
        have T5 := T9.up hu5
        have hsl : ∀ k, inA (some ⟨w9.heap.size, 0, none⟩) k → ¬ foot h k := fun k hk hf => by
          obtain ⟨x, hx, rfl⟩ := hk
          injection hx with hx
          subst hx
          exact Nat.lt_irrefl _ (T9.D.lt hf).2
        have hK9 := hKK.out (.slice (some ⟨w9.heap.size, 0, none⟩) p.length c5) w5 ⟨K5.two, fun e => absurd e (by decide), fun _ => ⟨T5, K5, _, c5, by rw [Rg.upd_same], hrd5, hsl⟩, fun e => absurd e (by decide), fun e => absurd e (by decide)⟩
        have HK9 := Lib.hid hK9
        clear hK9 hKK K5 T5 hsl hrd5 hu5 hcap
        go_simp
        exact HK9.out
      simp only [Act.put, List.setIfInBounds_toArray, List.set_cons_zero, List.set_cons_succ, Nat.reduceAdd]
      apply Rg.RC.call (.int .i64 ((eo : Nat) : Int))
      · rfl
      · intro vs w9 hS K hKK
        obtain ⟨T9, W9, Q, c5, hv4, hrd5, hsl⟩ := hS.2.2.1 rfl
        clear hS
        (try dsimp only at hKK ⊢)
        rw [hv4] at hKK ⊢
        have HV4 := Lib.hid hv4
        clear hv4
        go_simp
        have hcon := dappend_any T9.D hok s1 a ha Q p.length c5 p hrd5 (by omega) hsl
        rw [HEC.out, ← HEO.out] at hcon
        refine hcon.mono ?_
        rintro e w5 ⟨h5, rfl, H5, D5⟩
        obtain ⟨T5, K5⟩ := T9.stepD H5 D5
        have K6 := W9.trans K5
        exact hKK.out _ ⟨K6.two, fun e => absurd e (by decide), fun e => absurd e (by decide), fun _ => ⟨h5, T5, K6⟩, fun e => absurd e (by decide)⟩
      simp only [Act.put, List.setIfInBounds_toArray, List.set_cons_zero, List.set_cons_succ, Nat.reduceAdd]
      iterate 4 (apply Rg.RC.ok; (· intro i vs w1 hS; go_simp; with_reducible rfl); (· rfl); simp only [Act.put, List.setIfInBounds_toArray, List.set_cons_zero, List.set_cons_succ, Nat.reduceAdd])
      apply Rg.RC.call (.int .i64 ((eo : Nat) : Int))
      · rfl
      · intro vs w9 hS K hKK
        obtain ⟨h5, T9, W9⟩ := hS.2.2.2.1 rfl
        clear hS
        go_simp
        have hcon := rappend_any T9.R hrok a p ha (by omega)
        rw [← HEO.out] at hcon
        refine hcon.mono ?_
        rintro e w5 ⟨hr5, rfl, H5, D5⟩
        obtain ⟨T5, K5⟩ := T9.stepR H5 D5
        have K6 := W9.trans K5
        exact hKK.out _ ⟨K6.two, fun e => absurd e (by decide), fun e => absurd e (by decide), fun e => absurd e (by decide), fun _ => ⟨h5, hr5, T5, K6⟩⟩
      simp only [Act.put, List.setIfInBounds_toArray, List.set_cons_zero, List.set_cons_succ, Nat.reduceAdd]
      iterate 2 (apply Rg.RC.ok; (· intro i vs w1 hS; go_simp; with_reducible rfl); (· rfl); simp only [Act.put, List.setIfInBounds_toArray, List.set_cons_zero, List.set_cons_succ, Nat.reduceAdd])
      apply Rg.RC.fin
      intro vs w9 hS
      obtain ⟨h5, hr5, T9, W9⟩ := hS.2.2.2.2 rfl
      clear hS
      refine hQN.out _ _ ?_
      clear hQN
      (try dsimp only)
      have HT := Lib.hid T9
      have HW := Lib.hid W9
      generalize vs 4 = u4 at *
      clear T9 W9 Tb kc2
      go_wp2_with fail
      go_ret
      exact ⟨rfl, h5, _, hr5, _, HT.out, WAB.trans HW.out, hres.2, HDO.out⟩
    · kernel_rfl
  have b1 : (kind == 1) = false := by rw [beq_eq_false_iff_ne]; exact k1
  by_cases k2 : kind = 2
  · subst k2
    have hres := S.sync a
    have HDO := Lib.hid (syncD_ok hok a)
    obtain ⟨eo, heo⟩ : ∃ eo, eo = (syncR r a).2 := ⟨_, rfl⟩
    have HEO := Lib.hid heo
    have HEC := Lib.hid hres.1
    clear heo
    go_enter Try.func32, Try.ntmps32
    go_upto_region 14 with fail
    generalize hwa : w.alloc (.cells #[.int .i64 (2), .int .i64 n, .string (tx a), .string (tx b), .slice A ln cp] 56) = wa at *
    generalize w.heap.size = gb at *
    have kb1 : ∀ W, TwoTo2 h hr wa W → W.cell? ⟨gb, 1, none⟩ = some (.int .i64 n) := fun W hW => hW.cell hgl hnf (blk_cell hbox 1)
    have kb2 : ∀ W, TwoTo2 h hr wa W → W.cell? ⟨gb, 2, none⟩ = some (.string (tx a)) := fun W hW => hW.cell hgl hnf (blk_cell hbox 2)
    have kb3 : ∀ W, TwoTo2 h hr wa W → W.cell? ⟨gb, 3, none⟩ = some (.string (tx b)) := fun W hW => hW.cell hgl hnf (blk_cell hbox 3)
    have kb4 : ∀ W, TwoTo2 h hr wa W → W.cell? ⟨gb, 4, none⟩ = some (.slice A ln cp) := fun W hW => hW.cell hgl hnf (blk_cell hbox 4)
    apply Rg.region_chain (fun i vs W => TwoTo2 h hr wa W ∧ (i = 0 → Two B h d hr r W) ∧ (i = 1 → ∃ h5, Two B h5 ((syncD d a).1) hr r W ∧ TwoTo h hr wa h5 hr W) ∧ (i = 2 → ∃ h5 hr5, Two B h5 ((syncD d a).1) hr5 ((syncR r a).1) W ∧ TwoTo h hr wa h5 hr5 W)) (by kernel_rfl) (by kernel_rfl) (fun vs => ⟨TwoTo2.up (Up.drew (Up.refl wa)), fun _ => T.up (Up.drew (Up.refl wa)), fun e => absurd e (by decide), fun e => absurd e (by decide)⟩)
    · intro QN hQN
      iterate 3 (apply Rg.RC.ok; (· intro i vs w1 hS; go_simp; with_reducible rfl); (· rfl); simp only [Act.put, List.setIfInBounds_toArray, List.set_cons_zero, List.set_cons_succ, Nat.reduceAdd])
      apply Rg.RC.call (.int .i64 ((eo : Nat) : Int))
      · rfl
      · intro vs w9 hS K hKK
        have T9 := hS.2.1 rfl
        have W9 := hS.1
        clear hS
        go_simp
        have hcon := sync_any T9.D hok s1 a ha
        rw [HEC.out, ← HEO.out] at hcon
        refine hcon.mono ?_
        rintro e w5 ⟨h5, rfl, H5, D5⟩
        obtain ⟨T5, K5⟩ := T9.stepD H5 D5
        have K6 := W9.trans K5
        exact hKK.out _ ⟨K6.two, fun e => absurd e (by decide), fun _ => ⟨h5, T5, K6⟩, fun e => absurd e (by decide)⟩
      simp only [Act.put, List.setIfInBounds_toArray, List.set_cons_zero, List.set_cons_succ, Nat.reduceAdd]
      iterate 3 (apply Rg.RC.ok; (· intro i vs w1 hS; go_simp; with_reducible rfl); (· rfl); simp only [Act.put, List.setIfInBounds_toArray, List.set_cons_zero, List.set_cons_succ, Nat.reduceAdd])
      apply Rg.RC.call (.int .i64 ((eo : Nat) : Int))
      · rfl
      · intro vs w9 hS K hKK
        obtain ⟨h5, T9, W9⟩ := hS.2.2.1 rfl
        clear hS
        go_simp
        have hcon := rsync_any T9.R hrok a ha
        rw [← HEO.out] at hcon
        refine hcon.mono ?_
        rintro e w5 ⟨hr5, rfl, H5, D5⟩
        obtain ⟨T5, K5⟩ := T9.stepR H5 D5
        have K6 := W9.trans K5
        exact hKK.out _ ⟨K6.two, fun e => absurd e (by decide), fun e => absurd e (by decide), fun _ => ⟨h5, hr5, T5, K6⟩⟩
      simp only [Act.put, List.setIfInBounds_toArray, List.set_cons_zero, List.set_cons_succ, Nat.reduceAdd]
      iterate 2 (apply Rg.RC.ok; (· intro i vs w1 hS; go_simp; with_reducible rfl); (· rfl); simp only [Act.put, List.setIfInBounds_toArray, List.set_cons_zero, List.set_cons_succ, Nat.reduceAdd])
      apply Rg.RC.fin
      intro vs w9 hS
      obtain ⟨h5, hr5, T9, W9⟩ := hS.2.2.2 rfl
      clear hS
      refine hQN.out _ _ ?_
      clear hQN
      (try dsimp only)
      have HT := Lib.hid T9
      have HW := Lib.hid W9
      clear T9 W9 T kb1 kb2 kb3 kb4
      go_wp2_with fail
      go_ret
      exact ⟨rfl, h5, _, hr5, _, HT.out, WA.trans HW.out, hres.2, HDO.out⟩
    · kernel_rfl
  have b2 : (kind == 2) = false := by rw [beq_eq_false_iff_ne]; exact k2
  by_cases k3 : kind = 3
  · subst k3
    have hres := S.rename a b ha hb
    have HDO := Lib.hid (renameD_ok hok a b s3 s4)
    obtain ⟨eo, heo⟩ : ∃ eo, eo = (renameR r a b).2 := ⟨_, rfl⟩
    have HEO := Lib.hid heo
    have HEC := Lib.hid hres.1
    clear heo
    go_enter Try.func32, Try.ntmps32
    go_upto_region 16 with fail
    generalize hwa : w.alloc (.cells #[.int .i64 (3), .int .i64 n, .string (tx a), .string (tx b), .slice A ln cp] 56) = wa at *
    generalize w.heap.size = gb at *
    have kb1 : ∀ W, TwoTo2 h hr wa W → W.cell? ⟨gb, 1, none⟩ = some (.int .i64 n) := fun W hW => hW.cell hgl hnf (blk_cell hbox 1)
    have kb2 : ∀ W, TwoTo2 h hr wa W → W.cell? ⟨gb, 2, none⟩ = some (.string (tx a)) := fun W hW => hW.cell hgl hnf (blk_cell hbox 2)
    have kb3 : ∀ W, TwoTo2 h hr wa W → W.cell? ⟨gb, 3, none⟩ = some (.string (tx b)) := fun W hW => hW.cell hgl hnf (blk_cell hbox 3)
    have kb4 : ∀ W, TwoTo2 h hr wa W → W.cell? ⟨gb, 4, none⟩ = some (.slice A ln cp) := fun W hW => hW.cell hgl hnf (blk_cell hbox 4)
    apply Rg.region_chain (fun i vs W => TwoTo2 h hr wa W ∧ (i = 0 → Two B h d hr r W) ∧ (i = 1 → ∃ h5, Two B h5 ((renameD d a b).1) hr r W ∧ TwoTo h hr wa h5 hr W) ∧ (i = 2 → ∃ h5 hr5, Two B h5 ((renameD d a b).1) hr5 ((renameR r a b).1) W ∧ TwoTo h hr wa h5 hr5 W)) (by kernel_rfl) (by kernel_rfl) (fun vs => ⟨TwoTo2.up (Up.drew (Up.refl wa)), fun _ => T.up (Up.drew (Up.refl wa)), fun e => absurd e (by decide), fun e => absurd e (by decide)⟩)
    · intro QN hQN
      iterate 5 (apply Rg.RC.ok; (· intro i vs w1 hS; go_simp; with_reducible rfl); (· rfl); simp only [Act.put, List.setIfInBounds_toArray, List.set_cons_zero, List.set_cons_succ, Nat.reduceAdd])
      apply Rg.RC.call (.int .i64 ((eo : Nat) : Int))
      · rfl
      · intro vs w9 hS K hKK
        have T9 := hS.2.1 rfl
        have W9 := hS.1
        clear hS
        go_simp
        have hcon := rename_any T9.D hok s1 s3 a b ha hb
        rw [HEC.out, ← HEO.out] at hcon
        refine hcon.mono ?_
        rintro e w5 ⟨h5, rfl, H5, D5⟩
        obtain ⟨T5, K5⟩ := T9.stepD H5 D5
        have K6 := W9.trans K5
        exact hKK.out _ ⟨K6.two, fun e => absurd e (by decide), fun _ => ⟨h5, T5, K6⟩, fun e => absurd e (by decide)⟩
      simp only [Act.put, List.setIfInBounds_toArray, List.set_cons_zero, List.set_cons_succ, Nat.reduceAdd]
      iterate 5 (apply Rg.RC.ok; (· intro i vs w1 hS; go_simp; with_reducible rfl); (· rfl); simp only [Act.put, List.setIfInBounds_toArray, List.set_cons_zero, List.set_cons_succ, Nat.reduceAdd])
      apply Rg.RC.call (.int .i64 ((eo : Nat) : Int))
      · rfl
      · intro vs w9 hS K hKK
        obtain ⟨h5, T9, W9⟩ := hS.2.2.1 rfl
        clear hS
        go_simp
        have hcon := rrename_any T9.R hrok a b ha hb
        rw [← HEO.out] at hcon
        refine hcon.mono ?_
        rintro e w5 ⟨hr5, rfl, H5, D5⟩
        obtain ⟨T5, K5⟩ := T9.stepR H5 D5
        have K6 := W9.trans K5
        exact hKK.out _ ⟨K6.two, fun e => absurd e (by decide), fun e => absurd e (by decide), fun _ => ⟨h5, hr5, T5, K6⟩⟩
      simp only [Act.put, List.setIfInBounds_toArray, List.set_cons_zero, List.set_cons_succ, Nat.reduceAdd]
      iterate 2 (apply Rg.RC.ok; (· intro i vs w1 hS; go_simp; with_reducible rfl); (· rfl); simp only [Act.put, List.setIfInBounds_toArray, List.set_cons_zero, List.set_cons_succ, Nat.reduceAdd])
      apply Rg.RC.fin
      intro vs w9 hS
      obtain ⟨h5, hr5, T9, W9⟩ := hS.2.2.2 rfl
      clear hS
      refine hQN.out _ _ ?_
      clear hQN
      (try dsimp only)
      have HT := Lib.hid T9
      have HW := Lib.hid W9
      clear T9 W9 T kb1 kb2 kb3 kb4
      go_wp2_with fail
      go_ret
      exact ⟨rfl, h5, _, hr5, _, HT.out, WA.trans HW.out, hres.2, HDO.out⟩
    · kernel_rfl
  have b3 : (kind == 3) = false := by rw [beq_eq_false_iff_ne]; exact k3
  by_cases k4 : kind = 4
  · subst k4
    have hres := S.remove a ha
    have HDO := Lib.hid (removeD_ok hok a s3 s4)
    obtain ⟨eo, heo⟩ : ∃ eo, eo = (removeR r a).2 := ⟨_, rfl⟩
    have HEO := Lib.hid heo
    have HEC := Lib.hid hres.1
    clear heo
    go_enter Try.func32, Try.ntmps32
    go_upto_region 18 with fail
    generalize hwa : w.alloc (.cells #[.int .i64 (4), .int .i64 n, .string (tx a), .string (tx b), .slice A ln cp] 56) = wa at *
    generalize w.heap.size = gb at *
    have kb1 : ∀ W, TwoTo2 h hr wa W → W.cell? ⟨gb, 1, none⟩ = some (.int .i64 n) := fun W hW => hW.cell hgl hnf (blk_cell hbox 1)
    have kb2 : ∀ W, TwoTo2 h hr wa W → W.cell? ⟨gb, 2, none⟩ = some (.string (tx a)) := fun W hW => hW.cell hgl hnf (blk_cell hbox 2)
    have kb3 : ∀ W, TwoTo2 h hr wa W → W.cell? ⟨gb, 3, none⟩ = some (.string (tx b)) := fun W hW => hW.cell hgl hnf (blk_cell hbox 3)
    have kb4 : ∀ W, TwoTo2 h hr wa W → W.cell? ⟨gb, 4, none⟩ = some (.slice A ln cp) := fun W hW => hW.cell hgl hnf (blk_cell hbox 4)
    apply Rg.region_chain (fun i vs W => TwoTo2 h hr wa W ∧ (i = 0 → Two B h d hr r W) ∧ (i = 1 → ∃ h5, Two B h5 ((removeD d a).1) hr r W ∧ TwoTo h hr wa h5 hr W) ∧ (i = 2 → ∃ h5 hr5, Two B h5 ((removeD d a).1) hr5 ((removeR r a).1) W ∧ TwoTo h hr wa h5 hr5 W)) (by kernel_rfl) (by kernel_rfl) (fun vs => ⟨TwoTo2.up (Up.drew (Up.refl wa)), fun _ => T.up (Up.drew (Up.refl wa)), fun e => absurd e (by decide), fun e => absurd e (by decide)⟩)
    · intro QN hQN
      iterate 3 (apply Rg.RC.ok; (· intro i vs w1 hS; go_simp; with_reducible rfl); (· rfl); simp only [Act.put, List.setIfInBounds_toArray, List.set_cons_zero, List.set_cons_succ, Nat.reduceAdd])
      apply Rg.RC.call (.int .i64 ((eo : Nat) : Int))
      · rfl
      · intro vs w9 hS K hKK
        have T9 := hS.2.1 rfl
        have W9 := hS.1
        clear hS
        go_simp
        have hcon := remove_any T9.D hok s1 s3 a ha
        rw [HEC.out, ← HEO.out] at hcon
        refine hcon.mono ?_
        rintro e w5 ⟨h5, rfl, H5, D5⟩
        obtain ⟨T5, K5⟩ := T9.stepD H5 D5
        have K6 := W9.trans K5
        exact hKK.out _ ⟨K6.two, fun e => absurd e (by decide), fun _ => ⟨h5, T5, K6⟩, fun e => absurd e (by decide)⟩
      simp only [Act.put, List.setIfInBounds_toArray, List.set_cons_zero, List.set_cons_succ, Nat.reduceAdd]
      iterate 3 (apply Rg.RC.ok; (· intro i vs w1 hS; go_simp; with_reducible rfl); (· rfl); simp only [Act.put, List.setIfInBounds_toArray, List.set_cons_zero, List.set_cons_succ, Nat.reduceAdd])
      apply Rg.RC.call (.int .i64 ((eo : Nat) : Int))
      · rfl
      · intro vs w9 hS K hKK
        obtain ⟨h5, T9, W9⟩ := hS.2.2.1 rfl
        clear hS
        go_simp
        have hcon := rremove_any T9.R hrok a ha
        rw [← HEO.out] at hcon
        refine hcon.mono ?_
        rintro e w5 ⟨hr5, rfl, H5, D5⟩
        obtain ⟨T5, K5⟩ := T9.stepR H5 D5
        have K6 := W9.trans K5
        exact hKK.out _ ⟨K6.two, fun e => absurd e (by decide), fun e => absurd e (by decide), fun _ => ⟨h5, hr5, T5, K6⟩⟩
      simp only [Act.put, List.setIfInBounds_toArray, List.set_cons_zero, List.set_cons_succ, Nat.reduceAdd]
      iterate 2 (apply Rg.RC.ok; (· intro i vs w1 hS; go_simp; with_reducible rfl); (· rfl); simp only [Act.put, List.setIfInBounds_toArray, List.set_cons_zero, List.set_cons_succ, Nat.reduceAdd])
      apply Rg.RC.fin
      intro vs w9 hS
      obtain ⟨h5, hr5, T9, W9⟩ := hS.2.2.2 rfl
      clear hS
      refine hQN.out _ _ ?_
      clear hQN
      (try dsimp only)
      have HT := Lib.hid T9
      have HW := Lib.hid W9
      clear T9 W9 T kb1 kb2 kb3 kb4
      go_wp2_with fail
      go_ret
      exact ⟨rfl, h5, _, hr5, _, HT.out, WA.trans HW.out, hres.2, HDO.out⟩
    · kernel_rfl
  have b4 : (kind == 4) = false := by rw [beq_eq_false_iff_ne]; exact k4
  by_cases k5 : kind = 5
  · subst k5
    have hres := S.syncDir
    have HDO := Lib.hid (syncDirD_ok hok)
    obtain ⟨eo, heo⟩ : ∃ eo, eo = (syncDirR r).2 := ⟨_, rfl⟩
    have HEO := Lib.hid heo
    have HEC := Lib.hid hres.1
    clear heo
    go_enter Try.func32, Try.ntmps32
    go_upto_region 20 with fail
    generalize hwa : w.alloc (.cells #[.int .i64 (5), .int .i64 n, .string (tx a), .string (tx b), .slice A ln cp] 56) = wa at *
    generalize w.heap.size = gb at *
    have kb1 : ∀ W, TwoTo2 h hr wa W → W.cell? ⟨gb, 1, none⟩ = some (.int .i64 n) := fun W hW => hW.cell hgl hnf (blk_cell hbox 1)
    have kb2 : ∀ W, TwoTo2 h hr wa W → W.cell? ⟨gb, 2, none⟩ = some (.string (tx a)) := fun W hW => hW.cell hgl hnf (blk_cell hbox 2)
    have kb3 : ∀ W, TwoTo2 h hr wa W → W.cell? ⟨gb, 3, none⟩ = some (.string (tx b)) := fun W hW => hW.cell hgl hnf (blk_cell hbox 3)
    have kb4 : ∀ W, TwoTo2 h hr wa W → W.cell? ⟨gb, 4, none⟩ = some (.slice A ln cp) := fun W hW => hW.cell hgl hnf (blk_cell hbox 4)
    clear kb1 kb2 kb3 kb4
    have hcon := syncDir_any T.D hok s1
    rw [HEC.out, ← HEO.out] at hcon
    have HCON := Lib.hid hcon
    clear hcon
    go_wp2_with fail
    refine HCON.out.mono ?_
    rintro e w5 ⟨h5, rfl, H5, D5⟩
    obtain ⟨T5, K5⟩ := T.stepD H5 D5
    have hcon := rsyncDir_any T5.R hrok
    rw [← HEO.out] at hcon
    have HCON2 := Lib.hid hcon
    clear hcon HCON H5 D5
    go_wp2_with fail
    refine HCON2.out.mono ?_
    rintro e w6 ⟨hr6, rfl, H6, D6⟩
    obtain ⟨T6, K6⟩ := T5.stepR H6 D6
    clear HCON2 H6 D6
    go_wp2_with fail
    go_ret
    exact ⟨rfl, h5, _, hr6, _, T6, WA.trans (K5.trans K6), hres.2, HDO.out⟩
  have b5 : (kind == 5) = false := by rw [beq_eq_false_iff_ne]; exact k5
  by_cases k6 : kind = 6
  · subst k6
    have hrr := S.read a
    go_enter Try.func32, Try.ntmps32
    go_upto_region 22 with fail
    generalize hwa : w.alloc (.cells #[.int .i64 (6), .int .i64 n, .string (tx a), .string (tx b), .slice A ln cp] 56) = wa at *
    generalize w.heap.size = gb at *
    have kb1 : ∀ W, TwoTo2 h hr wa W → W.cell? ⟨gb, 1, none⟩ = some (.int .i64 n) := fun W hW => hW.cell hgl hnf (blk_cell hbox 1)
    have kb2 : ∀ W, TwoTo2 h hr wa W → W.cell? ⟨gb, 2, none⟩ = some (.string (tx a)) := fun W hW => hW.cell hgl hnf (blk_cell hbox 2)
    have kb3 : ∀ W, TwoTo2 h hr wa W → W.cell? ⟨gb, 3, none⟩ = some (.string (tx b)) := fun W hW => hW.cell hgl hnf (blk_cell hbox 3)
    have kb4 : ∀ W, TwoTo2 h hr wa W → W.cell? ⟨gb, 4, none⟩ = some (.slice A ln cp) := fun W hW => hW.cell hgl hnf (blk_cell hbox 4)
    have c2 := kb2 wa (TwoTo2.up (Up.refl wa))
    have HRR := Lib.hid hrr
    obtain ⟨es, hes⟩ : ∃ es, es = (readR r a).2 := ⟨_, rfl⟩
    obtain ⟨eb, heb⟩ : ∃ eb, eb = (readR r a).1 := ⟨_, rfl⟩
    have HES := Lib.hid hes
    have HEB := Lib.hid heb
    have hcon := dread_any T.D hok a ha
    rw [hrr, ← hes, ← heb] at hcon
    have HCON := Lib.hid hcon
    clear hcon hrr hes heb kb1 kb2 kb3 kb4
    go_wp2_with fail
    refine HCON.out.mono ?_
    rintro e w5 ⟨R, rn, rc, rfl, ho5, hu5⟩
    have T5 := T.up hu5
    have c2b : w5.cell? ⟨gb, 2, none⟩ = some (.string (tx a)) := (hu5.cell (p := ⟨gb, 2, none⟩) hgl).trans c2
    have hcon := rread_any T5.R hrok.toRkB a ha
    rw [← HES.out, ← HEB.out] at hcon
    have HCON2 := Lib.hid hcon
    clear hcon HCON c2
    go_wp2_with fail
    refine HCON2.out.mono ?_
    rintro e w6 ⟨rfl, hu6⟩
    have T6 := T5.up hu6
    have hcv : (convert 31 9 (.slice R rn rc)).run Try.prog w6 = .ok (.string (tx eb)) w6 := run_str rc ((OwnB.rd ho5).up hu6)
    clear HCON2 c2b
    have hbe : ((tx eb).toList == (tx eb).toList) = true := by simp
    go_wp2_with fail
    go_ret
    exact ⟨rfl, h, d, hr, r, T6, WA.trans (TwoTo.up (hu5.trans hu6)), S.mono (by omega), hok⟩
  have b6 : (kind == 6) = false := by rw [beq_eq_false_iff_ne]; exact k6
  by_cases k7 : kind = 7
  · subst k7
    have hres := S.stop n hn.2
    have HDO : Hid (DkOk (stopD d n)) := ⟨hok.nm, hok.la, hok.tn, hok.nf, hok.nt, hok.sn, hok.sl, hok.fb, by show n.toNat ≤ _; omega, hok.f, hok.q⟩
    go_enter Try.func32, Try.ntmps32
    go_upto_region 26 with fail
    generalize hwa : w.alloc (.cells #[.int .i64 (7), .int .i64 n, .string (tx a), .string (tx b), .slice A ln cp] 56) = wa at *
    generalize w.heap.size = gb at *
    have kb1 : ∀ W, TwoTo2 h hr wa W → W.cell? ⟨gb, 1, none⟩ = some (.int .i64 n) := fun W hW => hW.cell hgl hnf (blk_cell hbox 1)
    have kb2 : ∀ W, TwoTo2 h hr wa W → W.cell? ⟨gb, 2, none⟩ = some (.string (tx a)) := fun W hW => hW.cell hgl hnf (blk_cell hbox 2)
    have kb3 : ∀ W, TwoTo2 h hr wa W → W.cell? ⟨gb, 3, none⟩ = some (.string (tx b)) := fun W hW => hW.cell hgl hnf (blk_cell hbox 3)
    have kb4 : ∀ W, TwoTo2 h hr wa W → W.cell? ⟨gb, 4, none⟩ = some (.slice A ln cp) := fun W hW => hW.cell hgl hnf (blk_cell hbox 4)
    have c1 := kb1 wa (TwoTo2.up (Up.refl wa))
    have HCON := Lib.hid (stop_any T.D n)
    clear kb1 kb2 kb3 kb4
    go_wp2_with fail
    refine HCON.out.mono ?_
    rintro e w5 ⟨rfl, H5, D5⟩
    obtain ⟨T5, K5⟩ := T.stepD H5 D5
    have c1b : w5.cell? ⟨gb, 1, none⟩ = some (.int .i64 n) := K5.two.cell hgl hnf c1
    have HCON2 := Lib.hid (rstop_any T5.R n)
    clear HCON c1 H5 D5
    go_wp2_with fail
    refine HCON2.out.mono ?_
    rintro e w6 ⟨rfl, H6, D6⟩
    obtain ⟨T6, K6⟩ := T5.stepR H6 D6
    clear HCON2 H6 D6 c1b
    go_wp2_with fail
    go_ret
    exact ⟨rfl, h, _, hr, _, T6, WA.trans (K5.trans K6), hres.mono (by omega), HDO.out⟩
  have b7 : (kind == 7) = false := by rw [beq_eq_false_iff_ne]; exact k7
  by_cases k8 : kind = 8
  · subst k8
    obtain ⟨m, hm⟩ : ∃ m : Nat, m = n.toNat := ⟨_, rfl⟩
    have hmx : max n 0 = (m : Int) := by omega
    have hres := S.fail m
    have HDO : Hid (DkOk { d with fail := m }) := ⟨hok.nm, hok.la, hok.tn, hok.nf, hok.nt, hok.sn, hok.sl, hok.fb, hok.s, by show m ≤ _; omega, hok.q⟩
    go_enter Try.func32, Try.ntmps32
    go_upto_region 29 with fail
    generalize hwa : w.alloc (.cells #[.int .i64 (8), .int .i64 n, .string (tx a), .string (tx b), .slice A ln cp] 56) = wa at *
    generalize w.heap.size = gb at *
    have kb1 : ∀ W, TwoTo2 h hr wa W → W.cell? ⟨gb, 1, none⟩ = some (.int .i64 n) := fun W hW => hW.cell hgl hnf (blk_cell hbox 1)
    have kb2 : ∀ W, TwoTo2 h hr wa W → W.cell? ⟨gb, 2, none⟩ = some (.string (tx a)) := fun W hW => hW.cell hgl hnf (blk_cell hbox 2)
    have kb3 : ∀ W, TwoTo2 h hr wa W → W.cell? ⟨gb, 3, none⟩ = some (.string (tx b)) := fun W hW => hW.cell hgl hnf (blk_cell hbox 3)
    have kb4 : ∀ W, TwoTo2 h hr wa W → W.cell? ⟨gb, 4, none⟩ = some (.slice A ln cp) := fun W hW => hW.cell hgl hnf (blk_cell hbox 4)
    have c1 := kb1 wa (TwoTo2.up (Up.refl wa))
    have hcon := fail_any T.D n
    rw [← hm] at hcon
    have HCON := Lib.hid hcon
    clear kb1 kb2 kb3 kb4 hm hcon
    go_wp2_with fail
    refine HCON.out.mono ?_
    rintro e w5 ⟨rfl, H5, D5⟩
    obtain ⟨T5, K5⟩ := T.stepD H5 D5
    have c1b : w5.cell? ⟨gb, 1, none⟩ = some (.int .i64 n) := K5.two.cell hgl hnf c1
    have z7 := blk_free T5.R.hd 7
    have c7 := blk_cell T5.R.hd 7
    obtain ⟨H6, D6⟩ := T5.R.setHead { r with fail := m } 7 (.int .i64 (m : Int)) rfl rfl rfl rfl rfl
    obtain ⟨T6, K6⟩ := T5.stepR H6 D6
    clear HCON c1 H5 D5 H6 D6
    have HT := Lib.hid T6
    have HK := Lib.hid K6
    clear T6 K6
    by_cases hq : n < 0
    · have hm0 : m = 0 := by omega
      subst hm0
      go_wp2_with fail
      go_ret
      exact ⟨rfl, h, _, hr, _, HT.out, WA.trans (K5.trans HK.out), hres.mono (by omega), HDO.out⟩
    · have hmn : n = (m : Int) := by omega
      subst hmn
      go_wp2_with fail
      go_ret
      exact ⟨rfl, h, _, hr, _, HT.out, WA.trans (K5.trans HK.out), hres.mono (by omega), HDO.out⟩
  have b8 : (kind == 8) = false := by rw [beq_eq_false_iff_ne]; exact k8
  by_cases k9 : kind = 9
  · subst k9
    have hres := S.crash keep
    have HDO := Lib.hid (crashD_ok hok keep s5)
    have htn := S.tnb
    go_enter Try.func32, Try.ntmps32
    go_upto_region 32 with fail
    generalize hwa : w.alloc (.cells #[.int .i64 (9), .int .i64 n, .string (tx a), .string (tx b), .slice A ln cp] 56) = wa at *
    generalize w.heap.size = gb at *
    have kb1 : ∀ W, TwoTo2 h hr wa W → W.cell? ⟨gb, 1, none⟩ = some (.int .i64 n) := fun W hW => hW.cell hgl hnf (blk_cell hbox 1)
    have kb2 : ∀ W, TwoTo2 h hr wa W → W.cell? ⟨gb, 2, none⟩ = some (.string (tx a)) := fun W hW => hW.cell hgl hnf (blk_cell hbox 2)
    have kb3 : ∀ W, TwoTo2 h hr wa W → W.cell? ⟨gb, 3, none⟩ = some (.string (tx b)) := fun W hW => hW.cell hgl hnf (blk_cell hbox 3)
    have kb4 : ∀ W, TwoTo2 h hr wa W → W.cell? ⟨gb, 4, none⟩ = some (.slice A ln cp) := fun W hW => hW.cell hgl hnf (blk_cell hbox 4)
    have c4 := kb4 wa (TwoTo2.up (Up.refl wa))
    have HCON := Lib.hid (crash_any T.D hok A ln cp keep HRD.out hlc (by omega) hrg (fun hm x hx hf => HAP.out hm x hx (.inl hf)) (fun hm x hx => Nat.lt_trans (HAL.out hm x hx) hgl) htn)
    clear kb1 kb2 kb3 kb4
    go_wp2_with fail
    refine HCON.out.mono ?_
    rintro e w5 ⟨h5, rfl, H5, D5⟩
    obtain ⟨T5, K5⟩ := T.stepD H5 D5
    have c4b : w5.cell? ⟨gb, 4, none⟩ = some (.slice A ln cp) := K5.two.cell hgl hnf c4
    have hrd5 : Rd w5 w5.heap.size 1 A ln (izs keep) := HRD.out.keepsX0 (Nat.le_refl _) (fun hm x hx hf => HAP.out hm x hx (.inl hf)) D5.kept
    have HCON2 := Lib.hid (rcrash_any T5.R hrok.toRkB A ln cp keep hrd5 hl hrg (fun hm x hx hf => HAP.out hm x hx (.inr hf)))
    clear HCON c4 H5 D5 hrd5
    go_wp2_with fail
    refine HCON2.out.mono ?_
    rintro e w6 ⟨hr6, rfl, H6, D6⟩
    obtain ⟨T6, K6⟩ := T5.stepR H6 D6
    clear HCON2 H6 D6 c4b
    go_wp2_with fail
    go_ret
    exact ⟨rfl, h5, _, hr6, _, T6, WA.trans (K5.trans K6), hres.mono (by omega), HDO.out⟩
  have b9 : (kind == 9) = false := by rw [beq_eq_false_iff_ne]; exact k9
  clear k0 k1 k2 k3 k4 k5 k6 k7 k8 k9
  have hcl0 : d.calls ≤ 1000000000 := s1
  have S1 := S.crash []
  have ok1 := crashD_ok hok [] s5
  have t1 := S1.dsz (by omega)
  have S2 := S1.create [99, 111, 112, 121] (by decide)
  have ok2 := createD_ok ok1 [99, 111, 112, 121] t1.2.1 t1.2.2.1
  have t2 := S2.2.dsz (by omega)
  have htn := S.tnb
  go_enter Try.func32, Try.ntmps32
  go_upto_region 2 with fail
  generalize hwa : w.alloc (.cells #[.int .i64 (kind), .int .i64 n, .string (tx a), .string (tx b), .slice A ln cp] 56) = wa at *
  generalize w.heap.size = gb at *
  have kb1 : ∀ W, TwoTo2 h hr wa W → W.cell? ⟨gb, 1, none⟩ = some (.int .i64 n) := fun W hW => hW.cell hgl hnf (blk_cell hbox 1)
  have kb2 : ∀ W, TwoTo2 h hr wa W → W.cell? ⟨gb, 2, none⟩ = some (.string (tx a)) := fun W hW => hW.cell hgl hnf (blk_cell hbox 2)
  have kb3 : ∀ W, TwoTo2 h hr wa W → W.cell? ⟨gb, 3, none⟩ = some (.string (tx b)) := fun W hW => hW.cell hgl hnf (blk_cell hbox 3)
  have kb4 : ∀ W, TwoTo2 h hr wa W → W.cell? ⟨gb, 4, none⟩ = some (.slice A ln cp) := fun W hW => hW.cell hgl hnf (blk_cell hbox 4)
  clear kb1 kb2 kb3 kb4 hgl hnf hbox
  clear b0 b1 b2 b3 b4 b5 b6 b7 b8 b9
  have HCON := Lib.hid (dcopy_any T.D hok hcl0)
  go_wp2_with fail
  refine HCON.out.mono ?_
  rintro e w5 ⟨hc, rfl, Hc, hu5⟩
  have T5 := T.copy Hc hu5
  have HSM := Lib.hid (same4_any T5 S hok (by omega))
  clear HCON
  go_wp2_with fail
  refine HSM.out.mono ?_
  rintro e w6 ⟨rfl, hu6⟩
  have Hc6 := Hc.up hu6
  have hu56 := hu5.trans hu6
  have hcr := crash_any Hc6 hok none 0 0 [] Rd.empty (Nat.le_refl _) (by omega) (fun x hx => (by cases hx)) (fun h9 => absurd h9 (by decide)) (fun h9 => absurd h9 (by decide)) htn
  have HCR := Lib.hid hcr
  clear HSM hcr Hc T5 hu5 hu6
  go_wp2_with fail
  refine HCR.out.mono ?_
  rintro e w7 ⟨h7, rfl, H7, D7⟩
  have hu7 := D7.below Hc6 (Nat.le_refl _) hu56
  have hcc := create_any H7 ok1 t1.1 t1.2.1 t1.2.2.1 [99, 111, 112, 121] (by decide)
  rw [D7.g] at hcc
  have HCC := Lib.hid hcc
  clear HCR hcc Hc6 hu56
  go_wp2_with fail
  refine HCC.out.mono ?_
  rintro e w8 ⟨h8, rfl, H8, D8⟩
  have hu8 := D8.below H7 (Nat.le_refl _) hu7
  obtain ⟨hconv, hra, hua8⟩ := bytes_const w8 #[.int .u8 97, .int .u8 108, .int .u8 111, .int .u8 110, .int .u8 101] [97, 108, 111, 110, 101] 5 rfl rfl
  have H8a := H8.up hua8
  have hca := dappend_any H8a ok2 t2.1 [99, 111, 112, 121] (by decide) (some ⟨w8.heap.size, 0, none⟩) 5 5 [97, 108, 111, 110, 101] hra (by omega) (fun k hk hf => by
    obtain ⟨a, ha, e⟩ := hk
    injection ha with ha
    subst ha
    have := (H8.lt hf).2
    simp at e
    omega)
  rw [D8.g, D7.g] at hca
  have HCA := Lib.hid hca
  clear HCC hca hra H7 hu7 H8
  go_wp2_with fail
  clear hconv
  refine HCA.out.mono ?_
  rintro e w9 ⟨h9, rfl, H9, D9⟩
  have hu9 := D9.below H8a (Nat.le_refl _) (hu8.trans hua8)
  clear HCA H8a
  go_wp2_with fail
  go_ret
  exact ⟨rfl, h, d, hr, r, T.up hu9, WA.trans (TwoTo.up hu9), S.mono (by omega), hok⟩
end Go.Proofs.Ytebhhfmekmpnkaa

/-
  Opening arguments: slices of calls of a disk.
-/
namespace Go.Proofs.Ytebhhfmekmpnkaa
open Go.ChangeShapes Go.WideShapes Go.ChangeAt Go.RowKit Go.Deep
set_option linter.unusedVariables false
set_option linter.unusedSimpArgs false

/-- a call as it lies in memory, and what its row holds -/
structure OpV where
  kind : Int
  n : Int
  a : List UInt8
  b : List UInt8
  A : Option Addr
  ln : Nat
  cp : Nat
  ks : List Int
def OpV.cs (e : OpV) : List Value := [.int .i64 e.kind, .int .i64 e.n, .string (tx e.a), .string (tx e.b), .slice e.A e.ln e.cp]
theorem OpV.cs_len (e : OpV) : e.cs.length = 5 := rfl
structure IsOp (w : World) (e : OpV) : Prop where
  n1 : -9223372036854775808 ≤ e.n ∧ e.n ≤ 9223372036854775807
  la : e.a.length ≤ 9223372036854775807
  lb : e.b.length ≤ 9223372036854775807
  rd : Rd w w.heap.size 1 e.A e.ln (izs e.ks)
  c1 : e.ln ≤ e.cp
  c2 : e.cp ≤ 9223372036854775807
  bd : ∀ x ∈ e.ks, -9223372036854775808 ≤ x ∧ x ≤ 9223372036854775807
section
variable {H : Type} {enc : TypeId × Value → H} {W : World} {sp : Nat → Bool} {a : Option Addr} {len cap : Nat} {d : DataW H} {p : List MemPlace}
theorem izs_cells {fuel : Nat} {cs : List Value} {y : DataW H × List MemPlace} (hf : DataW.trod enc Try.prog W 0 (fun _ => true) true fuel 22 cs = some y) :
    ∃ (A : Option Addr) (n c : Nat) (l : List Int), cs = [.slice A n c] ∧ Rd W W.heap.size 1 A n (izs l) ∧ n ≤ c ∧ c ≤ 9223372036854775807 ∧ ∀ x ∈ l, -9223372036854775808 ≤ x ∧ x ≤ 9223372036854775807 := by
  rcases open_ints Try.underlying22 Try.underlying3 (by kernel_rfl) hf with ⟨hcs, _⟩ | ⟨x, l, c, zs, hcs, _, hl, hm, hz, _, hcell, hwz⟩
  · exact ⟨none, 0, 0, [], hcs, Rd.empty, by omega, by omega, fun x hx => by cases hx⟩
  · refine ⟨some x, l, c, _, hcs, rd_ints (fun z : Int => Value.int .i64 z) (fun n => n) (fun n hn => rfl) hl (by simpa using hz) hcell hwz, hl, by simpa only [maxLen] using hm, fun z hz => ?_⟩
    rw [List.map_id'] at hz
    exact bd_i64 (hwz z (List.mem_of_mem_take hz))
set_option maxRecDepth 100000 in
theorem op_cells {fuel : Nat} {cs : List Value} {y : DataW H × List MemPlace} (hf : DataW.trod enc Try.prog W 0 (fun _ => true) true fuel 56 cs = some y) : ∃ e : OpV, cs = e.cs ∧ IsOp W e := by
  obtain ⟨hlen, n, got⟩ := struct_one Try.underlying56 (by kernel_rfl) (by kernel_rfl) hf
  obtain ⟨y0, g0⟩ := got 0 _ rfl
  obtain ⟨y1, g1⟩ := got 1 _ rfl
  obtain ⟨y2, g2⟩ := got 2 _ rfl
  obtain ⟨y3, g3⟩ := got 3 _ rfl
  obtain ⟨y4, g4⟩ := got 4 _ rfl
  obtain ⟨n0, e0, _, w0⟩ := DataW.trod_int Try.underlying3 g0
  obtain ⟨n1, e1, _, w1⟩ := DataW.trod_int Try.underlying3 g1
  obtain ⟨s2, e2, _, w2⟩ := DataW.trod_string Try.underlying9 g2
  obtain ⟨s3, e3, _, w3⟩ := DataW.trod_string Try.underlying9 g3
  obtain ⟨A, an, ac, l, e4, hd, d1, d2, db⟩ := izs_cells g4
  have t2 : s2 = tx s2.data.toList := tx_of rfl
  have t3 : s3 = tx s3.data.toList := tx_of rfl
  have hl5 : cs.length = 5 := hlen
  match cs, hl5 with
  | [c0, c1, c2, c3, c4], _ =>
    simp only [List.drop_zero, List.drop_succ_cons, List.take_succ_cons, List.take_zero, List.cons.injEq, and_true] at e0 e1 e2 e3 e4
    exact ⟨⟨n0, n1, s2.data.toList, s3.data.toList, A, an, ac, l⟩, by rw [e0, e1, e2, e3, e4]; rfl, bd_i64 w1, by simpa [maxLen] using w2, by simpa [maxLen] using w3, hd, d1, d2, db⟩
def IsOps (w : World) (A : Option Addr) (n c : Nat) (l : List OpV) : Prop := Rd w w.heap.size 5 A n (l.flatMap OpV.cs) ∧ (∀ e ∈ l, IsOp w e) ∧ n ≤ c ∧ c ≤ 9223372036854775807
def op0 : OpV := ⟨0, 0, [], [], none, 0, 0, []⟩
theorem isOp0 (w : World) : IsOp w op0 where
  n1 := by decide
  la := by decide
  lb := by decide
  rd := Rd.empty
  c1 := by decide
  c2 := by decide
  bd := fun x hx => nomatch hx
instance : Inhabited { e : OpV // IsOp W e } := ⟨⟨op0, isOp0 W⟩⟩
set_option maxRecDepth 100000 in
theorem is_ops (h : DataW.Trod enc Try.prog W 0 (fun _ => true) true 52 (.slice a len cap) d p) : ∃ l, IsOps W a len cap l := by
  obtain ⟨fuel, hf⟩ := h
  rcases open_slice Try.underlying52 hf with ⟨hcs, _⟩ | ⟨x, l, c, m, n, D, Pl, hcs, _, hl, hm, hmm, _, hx⟩
  · simp [Value.cells] at hcs
    obtain ⟨rfl, rfl, rfl⟩ := hcs
    exact ⟨[], Rd.empty, fun p hp => (by cases hp), by omega, by omega⟩
  · simp [Value.cells] at hcs
    obtain ⟨rfl, rfl, rfl⟩ := hcs
    have hC : Try.prog.cellsOf 56 = 5 := by kernel_rfl
    rw [hC] at hx
    obtain ⟨L, hL, hr⟩ := rd_elems (α := { e : OpV // IsOp W e }) (W := W) (len := len) (a := x) (base := 0) (fun e => e.1.cs) (sz := 5) (fun _ => rfl) (by omega) (fun i hi => by
      obtain ⟨cs', h1, h2⟩ := hx i (by simp at hmm; omega)
      obtain ⟨e, he, hp⟩ := op_cells h2
      exact ⟨cs', h1, ⟨e, hp⟩, he⟩)
    have e : (L.map (·.1)).flatMap OpV.cs = L.flatMap fun f => f.1.cs := by
      clear hr hL
      induction L with
      | nil => rfl
      | cons q r ih => simp only [List.map_cons, List.flatMap_cons, ih]
    refine ⟨L.map (·.1), by rw [e]; exact hr, fun p hp => ?_, hl, by simpa only [maxLen] using hm⟩
    obtain ⟨q, _, rfl⟩ := List.mem_map.1 hp
    exact q.2
theorem IsOps.at_ {w : World} {A : Option Addr} {n c : Nat} {l : List OpV} (h : IsOps w A n c l) {k : Nat} (hk : k < n) :
    ∃ b o e, A = some ⟨b, o, none⟩ ∧ l[k]? = some e ∧ IsOp w e ∧ ∀ W, Up w W → W.cell? ⟨b, o + k * 5, none⟩ = some (.int .i64 e.kind) ∧ W.cell? ⟨b, o + k * 5 + 1, none⟩ = some (.int .i64 e.n) ∧ W.cell? ⟨b, o + k * 5 + 2, none⟩ = some (.string (tx e.a)) ∧
      W.cell? ⟨b, o + k * 5 + 3, none⟩ = some (.string (tx e.b)) ∧ W.cell? ⟨b, o + k * 5 + 4, none⟩ = some (.slice e.A e.ln e.cp) := by
  obtain ⟨hr, hp, hc1, hc2⟩ := h
  have hl := hr.1
  rw [flat_len OpV.cs OpV.cs_len] at hl
  obtain ⟨b, o, e, hb, hc⟩ := hr.2 (by omega)
  have hkl : k < l.length := by omega
  refine ⟨b, o, l[k], e, List.getElem?_eq_getElem hkl, hp _ (List.getElem_mem _), fun W hW => ?_⟩
  have got : ∀ j u, j < 5 → (l[k]).cs[j]? = some u → W.cell? ⟨b, o + k * 5 + j, none⟩ = some u := fun j u hj hu => by
    rw [Nat.add_assoc]
    exact (hW.cell (p := ⟨b, o + (k * 5 + j), none⟩) hb).trans (hc _ _ ((flat_at OpV.cs OpV.cs_len l hkl hj).trans hu))
  exact ⟨got 0 _ (by omega) rfl, got 1 _ (by omega) rfl, got 2 _ (by omega) rfl, got 3 _ (by omega) rfl, got 4 _ (by omega) rfl⟩
end
end Go.Proofs.Ytebhhfmekmpnkaa
