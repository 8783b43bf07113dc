/-
  Texts of this claim, joined: DkR, DkLaw.
-/
import Derived.Lib.SlBytesConst
import Derived.Test.YtebhhfmekmpnkaaZ3
/-
  The walks of the disk's Remove and Rename.
-/
namespace Go.Proofs.Ytebhhfmekmpnkaa
open Go.RowKit Go.Maps
set_option linter.unusedVariables false
set_option linter.unusedSimpArgs false

def removeD (d : Dk) (s : List UInt8) : Dk × Nat :=
  if (callN [s] d).2 ≠ 0 then ((callN [s] d).1, (callN [s] d).2)
  else if Maps.has d.names (nk s) = false then ((callN [s] d).1, 11)
  else ({ (callN [s] d).1 with names := doM ⟨3, 0, s, []⟩ d.names, turns := d.turns ++ [⟨3, 0, s, []⟩] }, 0)
def renameD (d : Dk) (a b : List UInt8) : Dk × Nat :=
  if (callN [a, b] d).2 ≠ 0 then ((callN [a, b] d).1, (callN [a, b] d).2)
  else if Maps.has d.names (nk a) = false then ((callN [a, b] d).1, 11)
  else if a = b then ((callN [a, b] d).1, 0)
  else ({ (callN [a, b] d).1 with names := doM ⟨2, 0, a, b⟩ d.names, turns := d.turns ++ [⟨2, 0, a, b⟩] }, 0)
theorem turned_ok {d : Dk} (h : DkOk d) (t : Tn) (ht : t.kind ≠ 1) (hn : d.turns.length < 1000000) (hs : Maps.size d.names < 1000000) : DkOk { d with names := doM t d.names, turns := d.turns ++ [t] } := by
  refine ⟨doM_ok h.nm t (fun e => absurd e ht), h.la, fun x hx => ?_, h.nf, by simp; omega, by have := doM_size h.nm t; show Maps.size (doM t d.names) ≤ _; omega, h.sl, h.fb, h.s, h.f, h.q⟩
  rcases List.mem_append.1 hx with hx | hx
  · exact h.tn x hx
  · rw [List.mem_singleton] at hx
    subst hx
    exact .inr ht
theorem removeD_ok {d : Dk} (h : DkOk d) (s : List UInt8) (hn : d.turns.length < 1000000) (hs : Maps.size d.names < 1000000) : DkOk (removeD d s).1 := by
  have hc := callN_ok (L := [s]) h
  obtain ⟨h1, h2, h3, h4, -⟩ := callN_same [s] d
  unfold removeD
  split
  · exact hc
  · split
    · exact hc
    · have h9 := turned_ok hc ⟨3, 0, s, []⟩ (show (3 : Nat) ≠ 1 by decide) (by rw [h4]; exact hn) (by rw [h2]; exact hs)
      rw [h2, h4] at h9
      exact h9
theorem renameD_ok {d : Dk} (h : DkOk d) (a b : List UInt8) (hn : d.turns.length < 1000000) (hs : Maps.size d.names < 1000000) : DkOk (renameD d a b).1 := by
  have hc := callN_ok (L := [a, b]) h
  obtain ⟨h1, h2, h3, h4, -⟩ := callN_same [a, b] d
  unfold renameD
  split
  · exact hc
  · split
    · exact hc
    · split
      · exact hc
      · have h9 := turned_ok hc ⟨2, 0, a, b⟩ (show (2 : Nat) ≠ 1 by decide) (by rw [h4]; exact hn) (by rw [h2]; exact hs)
        rw [h2, h4] at h9
        exact h9
set_option maxRecDepth 100000 in
set_option maxHeartbeats 1600000 in
theorem remove_any {B : Nat} {h : Hp} {d : Dk} {w : World} (H : DiskAt B h d w) (hok : DkOk d) (hcl : d.calls ≤ 1000000000) (hnt : d.turns.length < 1000000) (s : List UInt8) (hs : s.length ≤ 9223372036854775807) :
    Calls Try.prog 26 #[.pointer (some ⟨h.g, 0, none⟩), .string (tx s)] w fun e w' => ∃ h', e = .returned (.int .i64 ((removeD d s).2 : Int)) ∧ DiskAt B h' (removeD d s).1 w' ∧ DkTo h w h' w' := by
  have hb : Rd (w.alloc (.cells #[.string (tx s)] 9)) (w.alloc (.cells #[.string (tx s)] 9)).heap.size 1 (some ⟨w.heap.size, 0, none⟩) 1 (svs [s]) := Rd.box w (.string (tx s)) 9
  have H0 := H.up ((Up.refl w).alloc (.cells #[.string (tx s)] 9))
  have D0 : DkTo h w h (w.alloc (.cells #[.string (tx s)] 9)) := DkTo.up ((Up.refl w).alloc (.cells #[.string (tx s)] 9))
  have hcr : removeD d s = removeD d s := rfl
  conv at hcr => rhs; unfold removeD
  have HCR := Lib.hid hcr
  have hok1 := callN_ok (L := [s]) hok
  have hsame := callN_same [s] d
  have HSM := Lib.hid hsame
  clear hcr hsame
  go_enter Try.func26, Try.ntmps26
  go_wp2_with fail
  refine (call_any H0 hok hcl [s] (some ⟨w.heap.size, 0, none⟩) 1 1 hb (fun x hx => by rw [List.mem_singleton] at hx; subst hx; exact hs) (by omega)).mono ?_
  rintro e w1 ⟨rfl, H1, D1⟩
  have D01 := D0.trans D1
  clear H0 D0 D1 hb
  generalize callN [s] d = r at *
  obtain ⟨d1, ec⟩ := r
  (try dsimp only at *)
  by_cases he : ec ≠ 0
  · have heb : ((ec : Int) != 0) = true := by rw [bne_iff_ne]; omega
    have hcr2 := HCR.out
    rw [if_pos he] at hcr2
    have HC2 := Lib.hid hcr2
    clear hcr2 he
    go_wp2_with fail
    go_ret
    rw [HC2.out]
    exact ⟨h, rfl, H1, D01⟩
  · have heb : ((ec : Int) != 0) = false := by rw [bne_eq_false_iff_eq]; omega
    have hcr2 := HCR.out
    rw [if_neg he] at hcr2
    have HC2 := Lib.hid hcr2
    clear hcr2 he HCR
    obtain ⟨e1, e2, e3, e4, e5, e6, e7, e8⟩ := HSM.out
    go_wp2_with fail
    refine (find_any H1 hok1 s hs).mono ?_
    rintro e w2 ⟨rfl, hfi⟩
    rcases hfi with ⟨hfi, rfl⟩ | ⟨i, f, x, hfi, hf, hx, rfl⟩
    · have hh : Maps.has d.names (nk s) = false := by
        unfold findI at hfi
        rw [e2] at hfi
        split at hfi
        · cases hfi
        · rename_i h9; simpa using h9
      have hcr3 := HC2.out
      rw [if_pos hh] at hcr3
      have HC3 := Lib.hid hcr3
      clear hcr3 hfi hh e1 e2 e3 e4 e5 HC2
      go_wp2_with fail
      go_ret
      rw [HC3.out]
      exact ⟨h, rfl, H1, D01⟩
    · have hh : Maps.has d.names (nk s) = true := by
        unfold findI at hfi
        rw [e2] at hfi
        split at hfi
        · assumption
        · cases hfi
      have hcr3 := HC2.out
      rw [if_neg (by rw [hh]; decide)] at hcr3
      rw [← e2, ← e4] at hcr3
      have hnt1 : d1.turns.length < 1000000 := by rw [e4]; exact hnt
      have HC3 := Lib.hid hcr3
      have HNT := Lib.hid hnt1
      clear hcr3 hfi hh hf hx e1 e2 e3 e4 e5 HC2 HSM hnt1
      have hua : Up w1 (w1.alloc (.cells #[.int .i64 3, .int .i64 0, .string (tx s), Value.string { data := #[] }] 76)) := (Up.refl w1).alloc _
      have hblk := heap_alloc_new w1 (.cells #[.int .i64 3, .int .i64 0, .string (tx s), Value.string { data := #[] }] 76)
      have H2 := H1.up hua
      have D2 := D01.trans (DkTo.up (h := h) hua)
      have hgb : ¬ foot h w1.heap.size := fun hk => Nat.lt_irrefl _ (H1.lt hk).2
      go_upto_region 7 with fail
      generalize w1.alloc (.cells #[.int .i64 3, .int .i64 0, .string (tx s), Value.string { data := #[] }] 76) = W2 at *
      generalize w1.heap.size = g6 at *
      clear H1 D01 hua
      have b0 : W2.cell? ⟨g6, 0, none⟩ = some (.int .i64 3) := blk_cell hblk 0
      have b1 : W2.cell? ⟨g6, 1, none⟩ = some (.int .i64 0) := blk_cell hblk 1
      have b2 : W2.cell? ⟨g6, 2, none⟩ = some (.string (tx s)) := blk_cell hblk 2
      have b3 : W2.cell? ⟨g6, 3, none⟩ = some (Value.string { data := #[] }) := blk_cell hblk 3
      have c2 : W2.cell? ⟨h.g, 2, none⟩ = some (.map (some h.nb)) := blk_cell H2.hd 2
      have H2d := H2.up (Up.drew (Up.refl W2))
      have D2d := D2.trans (DkTo.up (h := h) (Up.drew (Up.refl W2)))
      have hblkd : W2.drew.heap[g6]? = some (.cells #[.int .i64 3, .int .i64 0, .string (tx s), Value.string { data := #[] }] 76 (0, 0)) := hblk
      have HDO : Hid (Calls Try.prog 43 #[.agg #[.int .i64 3, .int .i64 0, .string (tx s), Value.string { data := #[] }], .map (some h.nb)] W2.drew fun e w' => e = .returned (.tuple #[]) ∧ (∃ n', w'.ownsMap Try.prog 9 (plainElem Try.prog 3) h.nb n' (doM ⟨3, 0, s, []⟩ d1.names)) ∧ Rg.Keeps (fun k => k = h.nb) W2.drew w') := do_any ⟨3, 0, s, []⟩ h.nb _ _ d1.names W2.drew H2d.names (by have := hok1.sn; omega) hok1.nm hok1.nf (fun e => by cases e) (hs) (by simp)
      clear H2 D2 hblk
      go_still_tail 5, (by kernel_rfl)
      go_wp2_with fail
      refine HDO.out.mono ?_
      rintro e w3 ⟨rfl, ⟨n3, hm3⟩, hK3⟩
      obtain ⟨H3, D3⟩ := H2d.setNames (D' := doM ⟨3, 0, s, []⟩ d1.names) hK3 hm3
      have D23 := D2d.trans D3
      have hgb3 : w3.heap[g6]? = some (.cells #[.int .i64 3, .int .i64 0, .string (tx s), Value.string { data := #[] }] 76 (0, 0)) := (hK3.block g6 (Array.getElem?_eq_some_iff.1 hblkd).1 (fun e9 => hgb (.inr (.inl e9)))).trans hblkd
      have hgl3 : g6 < w3.heap.size := (Array.getElem?_eq_some_iff.1 hgb3).1
      have hgx : ¬ (g6 = h.g ∨ inA h.ta g6) := fun hx => hgb (hx.elim (fun e9 => .inl e9) (fun e9 => .inr (.inr (.inr (.inr (.inl e9))))))
      clear HDO D2d D3 hm3 hK3 hblkd b0 b1 b2 b3 c2
      obtain ⟨d3, hd3⟩ : ∃ d3 : Dk, d3 = { d1 with names := doM ⟨3, 0, s, []⟩ d1.names } := ⟨_, rfl⟩
      rw [← hd3] at H3
      have f4 : d3.turns.length ≤ 1000000 := by rw [hd3]; exact hok1.nt
      have HD3 := Lib.hid hd3
      clear hd3 H2d
      have hxo : ∀ g, (g = h.g ∨ inA h.ta g) → g < w3.heap.size := by
        rintro g (rfl | hg)
        · exact (H3.lt (.inl rfl)).2
        · exact (inA_own H3.turns hg).2
      have hS : ∀ W, Rg.Keeps (fun g => g = h.g ∨ inA h.ta g) w3.drew W → Rg.Keeps (fun g => g = h.g ∨ inA h.ta g) w3.drew W ∧ W.cell? ⟨g6, 0, none⟩ = some (.int .i64 3) ∧ W.cell? ⟨g6, 1, none⟩ = some (.int .i64 0) ∧ W.cell? ⟨g6, 2, none⟩ = some (.string (tx s)) ∧ W.cell? ⟨g6, 3, none⟩ = some (Value.string { data := #[] }) := fun W hK => by
        have hb : W.heap[g6]? = some (.cells #[.int .i64 3, .int .i64 0, .string (tx s), Value.string { data := #[] }] 76 (0, 0)) := (hK.block g6 hgl3 hgx).trans hgb3
        exact ⟨hK, blk_cell hb 0, blk_cell hb 1, blk_cell hb 2, blk_cell hb 3⟩
      have hbB : B ≤ w3.heap.size := by have := H3.lt (.inl rfl); omega
      go_upto_region 8 with fail
      obtain ⟨tt, htt⟩ : ∃ tt : Tn, tt = ⟨3, 0, s, []⟩ := ⟨_, rfl⟩
      have hcs : Tn.cs tt = [.int .i64 3, .int .i64 0, .string (tx s), Value.string { data := #[] }] := by rw [htt]; rfl
      have HCS := Lib.hid hcs
      have HTT := Lib.hid htt
      clear htt hcs
      apply Rg.region_own 11 _ (fun g => g = h.g ∨ inA h.ta g) (fun W => W.heap[h.g]? = some (.cells (dcs d3 h) 71 (0, 0)) ∧ W.ownsRow B 76 4 (.slice h.ta d3.turns.length h.tc) d3.turns.length (tcs d3.turns)) rfl (by kernel_rfl) (by kernel_rfl) hxo ⟨H3.hd, H3.turns⟩
        (fun v1 v2 hF hs => ⟨(hs.block h.g (Array.getElem?_eq_some_iff.1 hF.1).1 (.inr (.inl rfl))).trans hF.1, row_sta (Y := fun g => (g < w3.heap.size ∧ ¬ (g = h.g ∨ inA h.ta g)) ∨ (g = h.g ∨ inA h.ta g)) hF.2 ⟨hs.size, fun g hg hy => hs.block g hg (hy.elim id (fun ho => .inr (.inr (ob_inA ho))))⟩⟩) hS
      · intro QN hQN
        iterate 4 (apply Rg.RK.ok; (· intro vs w1 hS; go_simp; with_reducible rfl); (· rfl); simp only [Act.put, List.setIfInBounds_toArray, List.set_cons_zero, List.set_cons_succ, Nat.reduceAdd])
        apply Rg.RK.okU [11]
        · intro vs w9 hS9 hf
          obtain ⟨⟨hh, -⟩, -⟩ := hf
          have c4 : w9.cell? ⟨h.g, 4, none⟩ = some (.slice h.ta d3.turns.length h.tc) := blk_cell hh 4
          clear hh hS9
          go_simp
          with_reducible rfl
        · rfl
        simp only [Act.put, List.setIfInBounds_toArray, List.set_cons_zero, List.set_cons_succ, Nat.reduceAdd]
        iterate 1 (apply Rg.RK.ok; (· intro vs w1 hS; go_simp; with_reducible rfl); (· rfl); simp only [Act.put, List.setIfInBounds_toArray, List.set_cons_zero, List.set_cons_succ, Nat.reduceAdd])
        have hpc : ∀ y ∈ Tn.cs tt, y.oneCell' = true := fun y hy => by
          simp only [Tn.cs, List.mem_cons, List.not_mem_nil, or_false] at hy
          rcases hy with rfl | rfl | rfl | rfl <;> rfl
        apply Rg.RK.opn (fun v W1 => W1.ownsRow w3.heap.size 76 4 v 1 (Tn.cs tt)) Rg.ob [] []
        · exact fun v W1 W2 h hs => row_sta h hs
        · rfl
        · intro vs w9 hK hS9 _ K hKK
          go_simp
          refine hKK.out _ _ ?_ (Rg.Keeps.of_up ((Up.refl _).alloc _)) (by rintro g rfl; exact ⟨by simp, .inl (Nat.le_refl _)⟩)
          rw [HCS.out]
          exact row_new w9 _ _ hK.size rfl (by omega)
        simp only [Act.put, List.setIfInBounds_toArray, List.set_cons_zero, List.set_cons_succ, Nat.reduceAdd]
        apply Rg.RK.opn (fun v W => W.heap[h.g]? = some (.cells (dcs d3 h) 71 (0, 0)) ∧ W.ownsRow B 76 4 v (d3.turns.length + 1) (tcs d3.turns ++ Tn.cs tt) ∧ ∀ k, Rg.ob v k → inA h.ta k ∨ w3.heap.size ≤ k) (fun v g => g = h.g ∨ Rg.ob v g) [11, 6] [11]
        · rintro v v1 v2 ⟨f1, f2, f3⟩ hs
          exact ⟨(hs.block h.g (Array.getElem?_eq_some_iff.1 f1).1 (.inr (.inl rfl))).trans f1, row_sta (Y := fun g => (g < w3.drew.heap.size ∧ ¬ (g = h.g ∨ inA h.ta g)) ∨ (g = h.g ∨ Rg.ob v g)) f2 ⟨hs.size, fun g hg hy => hs.block g hg (hy.elim id (fun ho => .inr (.inr ho)))⟩, f3⟩
        · rfl
        · intro vs w9 hK hS9 hf K hKK
          obtain ⟨⟨hh, hrow⟩, h12, -⟩ := hf
          have h12' : w9.ownsRow w3.heap.size 76 4 (vs 6) 1 (Tn.cs tt) := h12
          obtain ⟨A12, c12, hv12⟩ := own_form h12'
          rw [hv12] at h12'
          (try dsimp only at hKK ⊢)
          rw [hv12] at hKK ⊢
          refine wp_append_rd _ _ _ turnsT rfl rfl rfl hrow (Rd.own h12') hpc (by omega) (by omega) (Nat.le_trans hbB hK.size) fun v' w5 ho' hg' hat' => ?_
          have hKr := keepsRow hrow hg'
          refine hKK.out _ _ ⟨?_, ho', fun k hk => ?_⟩ (Keeps.weak hKr fun y hy => ⟨11, List.mem_singleton.2 rfl, .inr hy⟩) (fun y hy => ?_)
          · refine (hKr.block h.g (Array.getElem?_eq_some_iff.1 hh).1 (fun hx => ?_)).trans hh
            have h1 := kd_row hrow hx
            rw [kd_cells hh] at h1
            exact absurd h1 (by decide)
          · obtain ⟨A', c', rfl⟩ := own_form ho'
            rcases at_inA hat' k (ob_inA hk) with h9 | h9
            · exact .inl h9
            · exact .inr (Nat.le_trans hK.size h9)
          · rcases hy with rfl | hy
            · exact ⟨Nat.lt_of_lt_of_le (Array.getElem?_eq_some_iff.1 hh).1 hKr.size, .inr ⟨11, List.mem_singleton.2 rfl, .inl rfl⟩⟩
            · obtain ⟨A', c', rfl⟩ := own_form ho'
              refine ⟨(inA_own ho' (ob_inA hy)).2, ?_⟩
              rcases at_inA hat' y (ob_inA hy) with h9 | h9
              · exact .inr ⟨11, List.mem_singleton.2 rfl, .inr h9⟩
              · exact .inl h9
        simp only [Act.put, List.setIfInBounds_toArray, List.set_cons_zero, List.set_cons_succ, Nat.reduceAdd]
        iterate 2 (apply Rg.RK.ok; (· intro vs w1 hS; go_simp; with_reducible rfl); (· rfl); simp only [Act.put, List.setIfInBounds_toArray, List.set_cons_zero, List.set_cons_succ, Nat.reduceAdd])
        apply Rg.RK.opD (fun vs W => ∃ T2 tc2, vs 7 = .slice T2 (d3.turns.length + 1) tc2 ∧ W.heap[h.g]? = some (.cells (dcs { d3 with turns := d3.turns ++ [tt] } { h with ta := T2, tc := tc2 }) 71 (0, 0)) ∧ W.ownsRow B 76 4 (.slice T2 (d3.turns.length + 1) tc2) (d3.turns.length + 1) (tcs d3.turns ++ Tn.cs tt) ∧ ∀ k, inA T2 k → inA h.ta k ∨ w3.heap.size ≤ k) (fun vs g => g = h.g ∨ Rg.ob (vs 7) g) [7] [7] [7] (fun vs vs' h => by rw [h 7 (by simp)]; exact ⟨rfl, rfl⟩)
        · rintro vs v1 v2 ⟨T2, tc2, f0, f1, f2, f3⟩ hs
          exact ⟨T2, tc2, f0, (hs.block h.g (Array.getElem?_eq_some_iff.1 f1).1 (.inr (.inl rfl))).trans f1, row_sta (Y := fun g => (g < w3.drew.heap.size ∧ ¬ (g = h.g ∨ inA h.ta g)) ∨ (g = h.g ∨ Rg.ob (vs 7) g)) f2 ⟨hs.size, fun g hg hy => hs.block g hg (hy.elim id (fun ho => .inr (.inr (by rw [f0]; exact ho))))⟩, f3⟩
        · rfl
        · intro vs w9 hK hS9 hf K hKK
          obtain ⟨h13, -⟩ := hf
          obtain ⟨hh, hrow, hat⟩ := h13
          have hrow' : w9.ownsRow B 76 4 (vs 7) (d3.turns.length + 1) (tcs d3.turns ++ Tn.cs tt) := hrow
          obtain ⟨T2, tc2, hv13⟩ := own_form hrow'
          have t4 : w9.cell? ⟨h.g, 4, none⟩ = some (.slice h.ta d3.turns.length h.tc) := blk_cell hh 4
          have s4 := blk_free hh 4
          have hset := setc_heap w9 h.g 4 (.slice T2 (d3.turns.length + 1) tc2) _ _ hh
          have hK9 : Rg.Keeps (fun k => k = h.g) w9 (w9.setCell ⟨h.g, 4, none⟩ (.slice T2 (d3.turns.length + 1) tc2)) := setc_keeps _ _ _ _ _ (Rg.Keeps.refl _ _)
          rw [hv13] at hrow'
          have hat2 : ∀ k, inA T2 k → inA h.ta k ∨ w3.heap.size ≤ k := fun k hk => hat k (by
            show Rg.ob (vs 7) k
            rw [hv13]
            obtain ⟨a, rfl, e⟩ := hk
            exact e)
          have hrow2 := own_keepsX hrow' hK9 (fun k hk e => by
            have h1 := kd_row hrow' hk
            rw [e, kd_cells hh] at h1
            exact absurd h1 (by decide))
          (try dsimp only at hKK ⊢)
          rw [hv13] at hKK ⊢
          have HV := Lib.hid hv13
          have HH := Lib.hid hh
          clear hv13 hat hrow hh hS9
          go_simp
          refine hKK.out undef _ ⟨T2, tc2, ?_, ?_, hrow2, hat2⟩ (Keeps.weak hK9 fun y hy => ⟨7, List.mem_singleton.2 rfl, .inl hy⟩) (fun y hy => ?_)
          · rw [Rg.upd_ne _ _ (by decide)]; exact HV.out
          · rw [hset]
            simp [dcs]
          · have hy' : y = h.g ∨ Rg.ob (vs 7) y := by simpa only [Rg.upd_ne _ _ (show 7 ≠ 10 by decide)] using hy
            rcases hy' with rfl | hy'
            · exact ⟨Nat.lt_of_lt_of_le (Array.getElem?_eq_some_iff.1 HH.out).1 hK9.size, .inr ⟨7, List.mem_singleton.2 rfl, .inl rfl⟩⟩
            · rw [HV.out] at hy'
              refine ⟨(inA_own hrow2 (ob_inA hy')).2, .inr ⟨7, List.mem_singleton.2 rfl, .inr ?_⟩⟩
              show Rg.ob (vs 7) y
              rw [HV.out]; exact hy'
        simp only [Act.put, List.setIfInBounds_toArray, List.set_cons_zero, List.set_cons_succ, Nat.reduceAdd]
        apply Rg.RK.fin [10]
        intro vs w9 hK hS9 hf
        obtain ⟨h16, -⟩ := hf
        obtain ⟨T2, tc2, hv13, hh, hrow, hat⟩ := h16
        refine hQN.out _ _ ?_
        clear hQN hS9
        (try dsimp only)
        rw [hv13]
        have H3d := H3.up (Up.drew (Up.refl w3))
        obtain ⟨H4, K4, F4⟩ := H3d.setTurnsF (d3.turns ++ [tt]) (m0 := w3.heap.size) hh (by rw [List.length_append]; unfold tcs at hrow ⊢; rw [List.flatMap_append]; simpa using hrow) hK (Nat.le_refl _) hat
        have D4 : DkTo h w { h with ta := T2, tc := tc2 } w9 := D23.trans ⟨rfl, ⟨K4.os, K4.tape, K4.output, K4.size, K4.block⟩, F4⟩
        clear hv13 hh hrow hat hK K4 F4 H3d H3 D23 hxo hS hbB hpc
        go_wp2_with fail
        go_ret
        rw [HC3.out]
        rw [HD3.out, HTT.out] at H4
        first | exact ⟨_, rfl, H4, D4⟩ | exact ⟨rfl, _, H4, D4⟩
      · kernel_rfl
set_option maxRecDepth 100000 in
set_option maxHeartbeats 1600000 in
theorem rename_any {B : Nat} {h : Hp} {d : Dk} {w : World} (H : DiskAt B h d w) (hok : DkOk d) (hcl : d.calls ≤ 1000000000) (hnt : d.turns.length < 1000000) (a b : List UInt8) (ha : a.length ≤ 9223372036854775807) (hb0 : b.length ≤ 9223372036854775807) :
    Calls Try.prog 27 #[.pointer (some ⟨h.g, 0, none⟩), .string (tx a), .string (tx b)] w fun e w' => ∃ h', e = .returned (.int .i64 ((renameD d a b).2 : Int)) ∧ DiskAt B h' (renameD d a b).1 w' ∧ DkTo h w h' w' := by
  have hb : Rd (w.alloc (.cells #[.string (tx a), .string (tx b)] 9)) (w.alloc (.cells #[.string (tx a), .string (tx b)] 9)).heap.size 1 (some ⟨w.heap.size, 0, none⟩) 2 (svs [a, b]) := Rd.made w #[.string (tx a), .string (tx b)] 9 rfl
  have H0 := H.up ((Up.refl w).alloc (.cells #[.string (tx a), .string (tx b)] 9))
  have D0 : DkTo h w h (w.alloc (.cells #[.string (tx a), .string (tx b)] 9)) := DkTo.up ((Up.refl w).alloc (.cells #[.string (tx a), .string (tx b)] 9))
  have hcr : renameD d a b = renameD d a b := rfl
  conv at hcr => rhs; unfold renameD
  have HCR := Lib.hid hcr
  have hok1 := callN_ok (L := [a, b]) hok
  have hsame := callN_same [a, b] d
  have HSM := Lib.hid hsame
  clear hcr hsame
  go_enter Try.func27, Try.ntmps27
  go_wp2_with fail
  refine (call_any H0 hok hcl [a, b] (some ⟨w.heap.size, 0, none⟩) 2 2 hb (fun x hx => by simp only [List.mem_cons, List.not_mem_nil, or_false] at hx; rcases hx with rfl | rfl <;> assumption) (by omega)).mono ?_
  rintro e w1 ⟨rfl, H1, D1⟩
  have D01 := D0.trans D1
  clear H0 D0 D1 hb
  generalize callN [a, b] d = r at *
  obtain ⟨d1, ec⟩ := r
  (try dsimp only at *)
  by_cases he : ec ≠ 0
  · have heb : ((ec : Int) != 0) = true := by rw [bne_iff_ne]; omega
    have hcr2 := HCR.out
    rw [if_pos he] at hcr2
    have HC2 := Lib.hid hcr2
    clear hcr2 he
    go_wp2_with fail
    go_ret
    rw [HC2.out]
    exact ⟨h, rfl, H1, D01⟩
  · have heb : ((ec : Int) != 0) = false := by rw [bne_eq_false_iff_eq]; omega
    have hcr2 := HCR.out
    rw [if_neg he] at hcr2
    have HC2 := Lib.hid hcr2
    clear hcr2 he HCR
    obtain ⟨e1, e2, e3, e4, e5, e6, e7, e8⟩ := HSM.out
    go_wp2_with fail
    refine (find_any H1 hok1 a ha).mono ?_
    rintro e w2 ⟨rfl, hfi⟩
    rcases hfi with ⟨hfi, rfl⟩ | ⟨i, f, x, hfi, hf, hx, rfl⟩
    · have hh : Maps.has d.names (nk a) = false := by
        unfold findI at hfi
        rw [e2] at hfi
        split at hfi
        · cases hfi
        · rename_i h9; simpa using h9
      have hcr3 := HC2.out
      rw [if_pos hh] at hcr3
      have HC3 := Lib.hid hcr3
      clear hcr3 hfi hh e1 e2 e3 e4 e5 HC2
      go_wp2_with fail
      go_ret
      rw [HC3.out]
      exact ⟨h, rfl, H1, D01⟩
    · have hh : Maps.has d.names (nk a) = true := by
        unfold findI at hfi
        rw [e2] at hfi
        split at hfi
        · assumption
        · cases hfi
      have hcr3 := HC2.out
      rw [if_neg (by rw [hh]; decide)] at hcr3
      by_cases hab : a = b
      · rw [if_pos hab] at hcr3
        have HC3 := Lib.hid hcr3
        have hsame : ((tx a).toList == (tx b).toList) = true := tx_beq hab
        clear hcr3 hfi hh hf hx e1 e2 e3 e4 e5 HC2 HSM hab
        go_wp2_with fail
        go_ret
        rw [HC3.out]
        exact ⟨h, rfl, H1, D01⟩
      rw [if_neg hab, ← e2, ← e4] at hcr3
      have hsame : ((tx a).toList == (tx b).toList) = false := tx_bne hab
      have hnt1 : d1.turns.length < 1000000 := by rw [e4]; exact hnt
      have HC3 := Lib.hid hcr3
      have HNT := Lib.hid hnt1
      clear hcr3 hfi hh hf hx e1 e2 e3 e4 e5 HC2 HSM hnt1 hab
      have hua : Up w1 (w1.alloc (.cells #[.int .i64 2, .int .i64 0, .string (tx a), Value.string (tx b)] 76)) := (Up.refl w1).alloc _
      have hblk := heap_alloc_new w1 (.cells #[.int .i64 2, .int .i64 0, .string (tx a), Value.string (tx b)] 76)
      have H2 := H1.up hua
      have D2 := D01.trans (DkTo.up (h := h) hua)
      have hgb : ¬ foot h w1.heap.size := fun hk => Nat.lt_irrefl _ (H1.lt hk).2
      go_upto_region 9 with fail
      generalize w1.alloc (.cells #[.int .i64 2, .int .i64 0, .string (tx a), Value.string (tx b)] 76) = W2 at *
      generalize w1.heap.size = g6 at *
      clear H1 D01 hua
      have b0 : W2.cell? ⟨g6, 0, none⟩ = some (.int .i64 2) := blk_cell hblk 0
      have b1 : W2.cell? ⟨g6, 1, none⟩ = some (.int .i64 0) := blk_cell hblk 1
      have b2 : W2.cell? ⟨g6, 2, none⟩ = some (.string (tx a)) := blk_cell hblk 2
      have b3 : W2.cell? ⟨g6, 3, none⟩ = some (Value.string (tx b)) := blk_cell hblk 3
      have c2 : W2.cell? ⟨h.g, 2, none⟩ = some (.map (some h.nb)) := blk_cell H2.hd 2
      have H2d := H2.up (Up.drew (Up.refl W2))
      have D2d := D2.trans (DkTo.up (h := h) (Up.drew (Up.refl W2)))
      have hblkd : W2.drew.heap[g6]? = some (.cells #[.int .i64 2, .int .i64 0, .string (tx a), Value.string (tx b)] 76 (0, 0)) := hblk
      have HDO : Hid (Calls Try.prog 43 #[.agg #[.int .i64 2, .int .i64 0, .string (tx a), Value.string (tx b)], .map (some h.nb)] W2.drew fun e w' => e = .returned (.tuple #[]) ∧ (∃ n', w'.ownsMap Try.prog 9 (plainElem Try.prog 3) h.nb n' (doM ⟨2, 0, a, b⟩ d1.names)) ∧ Rg.Keeps (fun k => k = h.nb) W2.drew w') := do_any ⟨2, 0, a, b⟩ h.nb _ _ d1.names W2.drew H2d.names (by have := hok1.sn; omega) hok1.nm hok1.nf (fun e => by cases e) (ha) (hb0)
      clear H2 D2 hblk
      go_still_tail 5, (by kernel_rfl)
      go_wp2_with fail
      refine HDO.out.mono ?_
      rintro e w3 ⟨rfl, ⟨n3, hm3⟩, hK3⟩
      obtain ⟨H3, D3⟩ := H2d.setNames (D' := doM ⟨2, 0, a, b⟩ d1.names) hK3 hm3
      have D23 := D2d.trans D3
      have hgb3 : w3.heap[g6]? = some (.cells #[.int .i64 2, .int .i64 0, .string (tx a), Value.string (tx b)] 76 (0, 0)) := (hK3.block g6 (Array.getElem?_eq_some_iff.1 hblkd).1 (fun e9 => hgb (.inr (.inl e9)))).trans hblkd
      have hgl3 : g6 < w3.heap.size := (Array.getElem?_eq_some_iff.1 hgb3).1
      have hgx : ¬ (g6 = h.g ∨ inA h.ta g6) := fun hx => hgb (hx.elim (fun e9 => .inl e9) (fun e9 => .inr (.inr (.inr (.inr (.inl e9))))))
      clear HDO D2d D3 hm3 hK3 hblkd b0 b1 b2 b3 c2
      obtain ⟨d3, hd3⟩ : ∃ d3 : Dk, d3 = { d1 with names := doM ⟨2, 0, a, b⟩ d1.names } := ⟨_, rfl⟩
      rw [← hd3] at H3
      have f4 : d3.turns.length ≤ 1000000 := by rw [hd3]; exact hok1.nt
      have HD3 := Lib.hid hd3
      clear hd3 H2d
      have hxo : ∀ g, (g = h.g ∨ inA h.ta g) → g < w3.heap.size := by
        rintro g (rfl | hg)
        · exact (H3.lt (.inl rfl)).2
        · exact (inA_own H3.turns hg).2
      have hS : ∀ W, Rg.Keeps (fun g => g = h.g ∨ inA h.ta g) w3.drew W → Rg.Keeps (fun g => g = h.g ∨ inA h.ta g) w3.drew W ∧ W.cell? ⟨g6, 0, none⟩ = some (.int .i64 2) ∧ W.cell? ⟨g6, 1, none⟩ = some (.int .i64 0) ∧ W.cell? ⟨g6, 2, none⟩ = some (.string (tx a)) ∧ W.cell? ⟨g6, 3, none⟩ = some (Value.string (tx b)) := fun W hK => by
        have hb : W.heap[g6]? = some (.cells #[.int .i64 2, .int .i64 0, .string (tx a), Value.string (tx b)] 76 (0, 0)) := (hK.block g6 hgl3 hgx).trans hgb3
        exact ⟨hK, blk_cell hb 0, blk_cell hb 1, blk_cell hb 2, blk_cell hb 3⟩
      have hbB : B ≤ w3.heap.size := by have := H3.lt (.inl rfl); omega
      go_upto_region 10 with fail
      obtain ⟨tt, htt⟩ : ∃ tt : Tn, tt = ⟨2, 0, a, b⟩ := ⟨_, rfl⟩
      have hcs : Tn.cs tt = [.int .i64 2, .int .i64 0, .string (tx a), Value.string (tx b)] := by rw [htt]; rfl
      have HCS := Lib.hid hcs
      have HTT := Lib.hid htt
      clear htt hcs
      apply Rg.region_own 11 _ (fun g => g = h.g ∨ inA h.ta g) (fun W => W.heap[h.g]? = some (.cells (dcs d3 h) 71 (0, 0)) ∧ W.ownsRow B 76 4 (.slice h.ta d3.turns.length h.tc) d3.turns.length (tcs d3.turns)) rfl (by kernel_rfl) (by kernel_rfl) hxo ⟨H3.hd, H3.turns⟩
        (fun v1 v2 hF hs => ⟨(hs.block h.g (Array.getElem?_eq_some_iff.1 hF.1).1 (.inr (.inl rfl))).trans hF.1, row_sta (Y := fun g => (g < w3.heap.size ∧ ¬ (g = h.g ∨ inA h.ta g)) ∨ (g = h.g ∨ inA h.ta g)) hF.2 ⟨hs.size, fun g hg hy => hs.block g hg (hy.elim id (fun ho => .inr (.inr (ob_inA ho))))⟩⟩) hS
      · intro QN hQN
        iterate 4 (apply Rg.RK.ok; (· intro vs w1 hS; go_simp; with_reducible rfl); (· rfl); simp only [Act.put, List.setIfInBounds_toArray, List.set_cons_zero, List.set_cons_succ, Nat.reduceAdd])
        apply Rg.RK.okU [11]
        · intro vs w9 hS9 hf
          obtain ⟨⟨hh, -⟩, -⟩ := hf
          have c4 : w9.cell? ⟨h.g, 4, none⟩ = some (.slice h.ta d3.turns.length h.tc) := blk_cell hh 4
          clear hh hS9
          go_simp
          with_reducible rfl
        · rfl
        simp only [Act.put, List.setIfInBounds_toArray, List.set_cons_zero, List.set_cons_succ, Nat.reduceAdd]
        iterate 1 (apply Rg.RK.ok; (· intro vs w1 hS; go_simp; with_reducible rfl); (· rfl); simp only [Act.put, List.setIfInBounds_toArray, List.set_cons_zero, List.set_cons_succ, Nat.reduceAdd])
        have hpc : ∀ y ∈ Tn.cs tt, y.oneCell' = true := fun y hy => by
          simp only [Tn.cs, List.mem_cons, List.not_mem_nil, or_false] at hy
          rcases hy with rfl | rfl | rfl | rfl <;> rfl
        apply Rg.RK.opn (fun v W1 => W1.ownsRow w3.heap.size 76 4 v 1 (Tn.cs tt)) Rg.ob [] []
        · exact fun v W1 W2 h hs => row_sta h hs
        · rfl
        · intro vs w9 hK hS9 _ K hKK
          go_simp
          refine hKK.out _ _ ?_ (Rg.Keeps.of_up ((Up.refl _).alloc _)) (by rintro g rfl; exact ⟨by simp, .inl (Nat.le_refl _)⟩)
          rw [HCS.out]
          exact row_new w9 _ _ hK.size rfl (by omega)
        simp only [Act.put, List.setIfInBounds_toArray, List.set_cons_zero, List.set_cons_succ, Nat.reduceAdd]
        apply Rg.RK.opn (fun v W => W.heap[h.g]? = some (.cells (dcs d3 h) 71 (0, 0)) ∧ W.ownsRow B 76 4 v (d3.turns.length + 1) (tcs d3.turns ++ Tn.cs tt) ∧ ∀ k, Rg.ob v k → inA h.ta k ∨ w3.heap.size ≤ k) (fun v g => g = h.g ∨ Rg.ob v g) [11, 6] [11]
        · rintro v v1 v2 ⟨f1, f2, f3⟩ hs
          exact ⟨(hs.block h.g (Array.getElem?_eq_some_iff.1 f1).1 (.inr (.inl rfl))).trans f1, row_sta (Y := fun g => (g < w3.drew.heap.size ∧ ¬ (g = h.g ∨ inA h.ta g)) ∨ (g = h.g ∨ Rg.ob v g)) f2 ⟨hs.size, fun g hg hy => hs.block g hg (hy.elim id (fun ho => .inr (.inr ho)))⟩, f3⟩
        · rfl
        · intro vs w9 hK hS9 hf K hKK
          obtain ⟨⟨hh, hrow⟩, h12, -⟩ := hf
          have h12' : w9.ownsRow w3.heap.size 76 4 (vs 6) 1 (Tn.cs tt) := h12
          obtain ⟨A12, c12, hv12⟩ := own_form h12'
          rw [hv12] at h12'
          (try dsimp only at hKK ⊢)
          rw [hv12] at hKK ⊢
          refine wp_append_rd _ _ _ turnsT rfl rfl rfl hrow (Rd.own h12') hpc (by omega) (by omega) (Nat.le_trans hbB hK.size) fun v' w5 ho' hg' hat' => ?_
          have hKr := keepsRow hrow hg'
          refine hKK.out _ _ ⟨?_, ho', fun k hk => ?_⟩ (Keeps.weak hKr fun y hy => ⟨11, List.mem_singleton.2 rfl, .inr hy⟩) (fun y hy => ?_)
          · refine (hKr.block h.g (Array.getElem?_eq_some_iff.1 hh).1 (fun hx => ?_)).trans hh
            have h1 := kd_row hrow hx
            rw [kd_cells hh] at h1
            exact absurd h1 (by decide)
          · obtain ⟨A', c', rfl⟩ := own_form ho'
            rcases at_inA hat' k (ob_inA hk) with h9 | h9
            · exact .inl h9
            · exact .inr (Nat.le_trans hK.size h9)
          · rcases hy with rfl | hy
            · exact ⟨Nat.lt_of_lt_of_le (Array.getElem?_eq_some_iff.1 hh).1 hKr.size, .inr ⟨11, List.mem_singleton.2 rfl, .inl rfl⟩⟩
            · obtain ⟨A', c', rfl⟩ := own_form ho'
              refine ⟨(inA_own ho' (ob_inA hy)).2, ?_⟩
              rcases at_inA hat' y (ob_inA hy) with h9 | h9
              · exact .inr ⟨11, List.mem_singleton.2 rfl, .inr h9⟩
              · exact .inl h9
        simp only [Act.put, List.setIfInBounds_toArray, List.set_cons_zero, List.set_cons_succ, Nat.reduceAdd]
        iterate 2 (apply Rg.RK.ok; (· intro vs w1 hS; go_simp; with_reducible rfl); (· rfl); simp only [Act.put, List.setIfInBounds_toArray, List.set_cons_zero, List.set_cons_succ, Nat.reduceAdd])
        apply Rg.RK.opD (fun vs W => ∃ T2 tc2, vs 7 = .slice T2 (d3.turns.length + 1) tc2 ∧ W.heap[h.g]? = some (.cells (dcs { d3 with turns := d3.turns ++ [tt] } { h with ta := T2, tc := tc2 }) 71 (0, 0)) ∧ W.ownsRow B 76 4 (.slice T2 (d3.turns.length + 1) tc2) (d3.turns.length + 1) (tcs d3.turns ++ Tn.cs tt) ∧ ∀ k, inA T2 k → inA h.ta k ∨ w3.heap.size ≤ k) (fun vs g => g = h.g ∨ Rg.ob (vs 7) g) [7] [7] [7] (fun vs vs' h => by rw [h 7 (by simp)]; exact ⟨rfl, rfl⟩)
        · rintro vs v1 v2 ⟨T2, tc2, f0, f1, f2, f3⟩ hs
          exact ⟨T2, tc2, f0, (hs.block h.g (Array.getElem?_eq_some_iff.1 f1).1 (.inr (.inl rfl))).trans f1, row_sta (Y := fun g => (g < w3.drew.heap.size ∧ ¬ (g = h.g ∨ inA h.ta g)) ∨ (g = h.g ∨ Rg.ob (vs 7) g)) f2 ⟨hs.size, fun g hg hy => hs.block g hg (hy.elim id (fun ho => .inr (.inr (by rw [f0]; exact ho))))⟩, f3⟩
        · rfl
        · intro vs w9 hK hS9 hf K hKK
          obtain ⟨h13, -⟩ := hf
          obtain ⟨hh, hrow, hat⟩ := h13
          have hrow' : w9.ownsRow B 76 4 (vs 7) (d3.turns.length + 1) (tcs d3.turns ++ Tn.cs tt) := hrow
          obtain ⟨T2, tc2, hv13⟩ := own_form hrow'
          have t4 : w9.cell? ⟨h.g, 4, none⟩ = some (.slice h.ta d3.turns.length h.tc) := blk_cell hh 4
          have s4 := blk_free hh 4
          have hset := setc_heap w9 h.g 4 (.slice T2 (d3.turns.length + 1) tc2) _ _ hh
          have hK9 : Rg.Keeps (fun k => k = h.g) w9 (w9.setCell ⟨h.g, 4, none⟩ (.slice T2 (d3.turns.length + 1) tc2)) := setc_keeps _ _ _ _ _ (Rg.Keeps.refl _ _)
          rw [hv13] at hrow'
          have hat2 : ∀ k, inA T2 k → inA h.ta k ∨ w3.heap.size ≤ k := fun k hk => hat k (by
            show Rg.ob (vs 7) k
            rw [hv13]
            obtain ⟨a, rfl, e⟩ := hk
            exact e)
          have hrow2 := own_keepsX hrow' hK9 (fun k hk e => by
            have h1 := kd_row hrow' hk
            rw [e, kd_cells hh] at h1
            exact absurd h1 (by decide))
          (try dsimp only at hKK ⊢)
          rw [hv13] at hKK ⊢
          have HV := Lib.hid hv13
          have HH := Lib.hid hh
          clear hv13 hat hrow hh hS9
          go_simp
          refine hKK.out undef _ ⟨T2, tc2, ?_, ?_, hrow2, hat2⟩ (Keeps.weak hK9 fun y hy => ⟨7, List.mem_singleton.2 rfl, .inl hy⟩) (fun y hy => ?_)
          · rw [Rg.upd_ne _ _ (by decide)]; exact HV.out
          · rw [hset]
            simp [dcs]
          · have hy' : y = h.g ∨ Rg.ob (vs 7) y := by simpa only [Rg.upd_ne _ _ (show 7 ≠ 10 by decide)] using hy
            rcases hy' with rfl | hy'
            · exact ⟨Nat.lt_of_lt_of_le (Array.getElem?_eq_some_iff.1 HH.out).1 hK9.size, .inr ⟨7, List.mem_singleton.2 rfl, .inl rfl⟩⟩
            · rw [HV.out] at hy'
              refine ⟨(inA_own hrow2 (ob_inA hy')).2, .inr ⟨7, List.mem_singleton.2 rfl, .inr ?_⟩⟩
              show Rg.ob (vs 7) y
              rw [HV.out]; exact hy'
        simp only [Act.put, List.setIfInBounds_toArray, List.set_cons_zero, List.set_cons_succ, Nat.reduceAdd]
        apply Rg.RK.fin [10]
        intro vs w9 hK hS9 hf
        obtain ⟨h16, -⟩ := hf
        obtain ⟨T2, tc2, hv13, hh, hrow, hat⟩ := h16
        refine hQN.out _ _ ?_
        clear hQN hS9
        (try dsimp only)
        rw [hv13]
        have H3d := H3.up (Up.drew (Up.refl w3))
        obtain ⟨H4, K4, F4⟩ := H3d.setTurnsF (d3.turns ++ [tt]) (m0 := w3.heap.size) hh (by rw [List.length_append]; unfold tcs at hrow ⊢; rw [List.flatMap_append]; simpa using hrow) hK (Nat.le_refl _) hat
        have D4 : DkTo h w { h with ta := T2, tc := tc2 } w9 := D23.trans ⟨rfl, ⟨K4.os, K4.tape, K4.output, K4.size, K4.block⟩, F4⟩
        clear hv13 hh hrow hat hK K4 F4 H3d H3 D23 hxo hS hbB hpc
        go_wp2_with fail
        go_ret
        rw [HC3.out]
        rw [HD3.out, HTT.out] at H4
        first | exact ⟨_, rfl, H4, D4⟩ | exact ⟨rfl, _, H4, D4⟩
      · kernel_rfl
end Go.Proofs.Ytebhhfmekmpnkaa

/-
  The disk: plain laws; awake.
-/
namespace Go.Proofs.Ytebhhfmekmpnkaa
open Go.RowKit Go.Maps
set_option linter.unusedVariables false
set_option linter.unusedSimpArgs false

theorem crashF_ok : ∀ (l : List Nat) (fs : List Fi) (keep : List Int), (∀ f ∈ fs, f.b.length ≤ 250000 ∧ f.last ≤ f.b.length) → (∀ f ∈ (crashF l fs keep).1, f.b.length ≤ 250000 ∧ f.last ≤ f.b.length) ∧ (crashF l fs keep).1.length = fs.length
  | [], fs, keep, h => ⟨h, rfl⟩
  | i :: r, fs, keep, h => by
    unfold crashF
    split
    · exact crashF_ok r fs keep h
    · have hg : (fs.getD i ⟨[], 0⟩).b.length ≤ 250000 ∧ (fs.getD i ⟨[], 0⟩).last ≤ (fs.getD i ⟨[], 0⟩).b.length := by
        rw [List.getD_eq_getElem?_getD]
        cases hx : fs[i]? with
        | none => exact ⟨Nat.zero_le _, Nat.le_refl _⟩
        | some x => exact h x (List.mem_of_getElem? hx)
      have hc := crash1_ok (keep.headD (keepRest (fs.getD i ⟨[], 0⟩) : Int)) hg
      have h2 := crashF_ok r (fs.set i (crash1 (fs.getD i ⟨[], 0⟩) (keep.headD (keepRest (fs.getD i ⟨[], 0⟩) : Int)))) keep.tail (fun f hf => by
        rcases List.mem_or_eq_of_mem_set hf with hf | rfl
        · exact h f hf
        · exact ⟨hc.1, Nat.le_of_eq hc.2.1⟩)
      exact ⟨h2.1, by rw [h2.2, List.length_set]⟩
theorem crashT_ok {n : Nat} : ∀ (l : List Tn) (D : Mp) (keep : List Int), MOk D n → (∀ t ∈ l, t.kind = 1 → t.file < n) → MOk (crashT l D keep).1 n ∧ Maps.size (crashT l D keep).1 ≤ Maps.size D + l.length
  | [], D, keep, h, _ => ⟨h, Nat.le_refl _⟩
  | t :: r, D, keep, h, ht => by
    unfold crashT
    split
    · have h2 := crashT_ok r (doM t D) keep.tail (doM_ok h t (ht t (List.mem_cons_self ..))) (fun q hq => ht q (List.mem_cons_of_mem _ hq))
      have h3 := doM_size h t
      exact ⟨h2.1, by rw [List.length_cons]; omega⟩
    · have h2 := crashT_ok r D keep.tail h (fun q hq => ht q (List.mem_cons_of_mem _ hq))
      exact ⟨h2.1, by rw [List.length_cons]; omega⟩
theorem crashD_ok {d : Dk} (h : DkOk d) (keep : List Int) (hs : Maps.size d.lasted + d.turns.length ≤ 1000000) : DkOk (crashD d keep) := by
  have h1 := crashF_ok (ledL d) d.files keep h.fb
  have h2 := crashT_ok (n := d.files.length) d.turns d.lasted (crashF (ledL d) d.files keep).2 h.la (fun t ht hk => (h.tn t ht).elim id (fun h9 => absurd hk h9))
  have hl : (crashD d keep).files.length = d.files.length := h1.2
  exact ⟨by rw [hl]; exact h2.1, by rw [hl]; exact h2.1, fun t ht => (by cases ht), by rw [hl]; exact h.nf, Nat.zero_le _, by show Maps.size (crashT _ _ _).1 ≤ _; omega, by show Maps.size (crashT _ _ _).1 ≤ _; omega, h1.1, Nat.zero_le _, Nat.zero_le _, h.q⟩
/-- what an operation leaves of what lies apart from the disk -/
theorem dk_rd {h h' : Hp} {w w' : World} (D : DkTo h w h' w') {B sz n : Nat} {A : Option Addr} {xs : List Value} (hr : Rd w B sz A n xs) (hB : B ≤ w.heap.size) (hne : ∀ a, A = some a → ¬ foot h a.block) : Rd w' w'.heap.size sz A n xs := hr.keepsX hB hne D.kept
theorem dk_cell {h h' : Hp} {w w' : World} (D : DkTo h w h' w') {g o : Nat} {u : Value} (hl : g < w.heap.size) (hc : w.cell? ⟨g, o, none⟩ = some u) (hne : ¬ foot h g) : w'.cell? ⟨g, o, none⟩ = some u :=
  (World.cell?_of_block (D.kept.block g hl hne)).trans hc
/-- []byte of a constant text -/
theorem bytes_const (w : World) (C : Array Value) (l : List UInt8) (n : Nat) (hC : C.toList = bvs l) (hn : l.length = n) :
    (convert 31 31 (.slice (some ⟨w.heap.size, 0, none⟩) n n)).run Try.prog (w.alloc (.cells C 5)) = .ok (.slice (some ⟨w.heap.size, 0, none⟩) n n) (w.alloc (.cells C 5 (n, n + 1))) ∧
    Rd (w.alloc (.cells C 5 (n, n + 1))) (w.alloc (.cells C 5 (n, n + 1))).heap.size 1 (some ⟨w.heap.size, 0, none⟩) n (bvs l) ∧ Up w (w.alloc (.cells C 5 (n, n + 1))) := by
  have hs : C.size = n := by rw [← hn, ← Array.length_toList, hC]; simp [bvs]
  subst hs
  refine ⟨Lib.run_convert_bytes_const w _ _ C _ _ bytesT.ut Try.underlying5, ⟨by simp [bvs, hn], fun _ => ⟨w.heap.size, 0, rfl, by rw [World.size_alloc]; omega, fun j u hj => ?_⟩⟩, (Up.refl w).alloc _⟩
  rw [cell_of_row _ w.heap.size (0 + j) C _ _ (heap_alloc_new w (.cells C 5 (C.size, C.size + 1))), Nat.zero_add, ← hj, ← hC]
  simp
set_option maxRecDepth 100000 in
set_option maxHeartbeats 1600000 in
theorem awake4_any (w : World) : Calls Try.prog 23 #[] w fun e w' => e = .returned (.bool true) ∧ Up w w' := by
  obtain ⟨da, hda⟩ : ∃ d, d = newD 1000 := ⟨_, rfl⟩
  obtain ⟨db, hdb⟩ : ∃ d, d = (createD da [97]).1 := ⟨_, rfl⟩
  obtain ⟨dc, hdc⟩ : ∃ d, d = (appendD db [97] [120, 121, 122]).1 := ⟨_, rfl⟩
  obtain ⟨dd, hdd⟩ : ∃ d, d = (syncDirD dc).1 := ⟨_, rfl⟩
  obtain ⟨de, hde⟩ : ∃ d, d = crashD dd [2] := ⟨_, rfl⟩
  have oka : DkOk da := by rw [hda]; exact newD_ok (by omega)
  have na : da.files.length = 0 ∧ da.turns.length = 0 ∧ da.calls = 0 := by rw [hda]; exact ⟨rfl, rfl, rfl⟩
  have okb : DkOk db := by rw [hdb]; exact createD_ok oka [97] (by omega) (by omega)
  have nb : db.calls = 1 := by rw [hdb, hda]; rfl
  have okc : DkOk dc := by rw [hdc]; exact appendD_ok okb _ _
  have nc : dc.calls = 2 := by rw [hdc, hdb, hda]; rfl
  have okd : DkOk dd := by rw [hdd]; exact syncDirD_ok okc
  have nd : Maps.size dd.lasted + dd.turns.length ≤ 1000000 ∧ dd.turns = [] := by rw [hdd, hdc, hdb, hda]; exact ⟨by decide, rfl⟩
  have oke : DkOk de := by rw [hde]; exact crashD_ok okd _ nd.1
  have e1 : (createD da [97]).2 = 0 := by rw [hda]; rfl
  have e2 : (appendD db [97] [120, 121, 122]).2 = 0 := by rw [hdb, hda]; rfl
  have e3 : (syncDirD dc).2 = 0 := by rw [hdc, hdb, hda]; rfl
  have e4 : readD de [97] = ([120, 121], 0) := by rw [hde, hdd, hdc, hdb, hda]; rfl
  have e5 : de.calls = 3 := by rw [hde, hdd, hdc, hdb, hda]; rfl
  have hbeq : ((tx [120, 121]).toList == [120, 121]) = true := by rw [tx_toList]; rfl
  have HDA := Lib.hid hda
  have E1 := Lib.hid e1
  have HDB := Lib.hid hdb
  have E2 := Lib.hid e2
  have HDC := Lib.hid hdc
  have E3 := Lib.hid e3
  have HDD := Lib.hid hdd
  have E4 := Lib.hid e4
  have HDE := Lib.hid hde
  have E5 := Lib.hid e5
  have NA := Lib.hid na
  have NB := Lib.hid nb
  have NC := Lib.hid nc
  have ND := Lib.hid nd
  clear hda hdb hdc hdd hde e1 e2 e3 e4 e5 na nb nc nd
  go_enter Try.func23, Try.ntmps23
  go_wp2_with fail
  refine (dnew_any 1000 w).mono ?_
  rintro e w1 ⟨h1, rfl, H1, hu1, hf1⟩
  rw [← HDA.out] at H1
  go_wp2_with fail
  refine (create_any H1 oka (by have := NA.out; omega) (by have := NA.out; omega) (by have := NA.out; omega) [97] (by decide)).mono ?_
  rintro e w2 ⟨h2, rfl, H2, D2⟩
  rw [E1.out]
  rw [← HDB.out] at H2
  have hu2 := D2.below H1 (Nat.le_refl _) hu1
  obtain ⟨hconv, hra, hua⟩ := bytes_const w2 #[.int .u8 120, .int .u8 121, .int .u8 122] [120, 121, 122] 3 rfl rfl
  have H2a := H2.up hua
  have hca := dappend_any H2a okb (by have := NB.out; omega) [97] (by decide) (some ⟨w2.heap.size, 0, none⟩) 3 3 [120, 121, 122] hra (by omega) (fun k hk hf => by
    obtain ⟨a, ha, e⟩ := hk
    injection ha with ha
    subst ha
    have := (H2.lt hf).2
    simp at e
    omega)
  rw [D2.g] at hca
  have HCA := Lib.hid hca
  clear hca hra
  go_wp2_with fail
  clear hconv
  refine HCA.out.mono ?_
  rintro e w3 ⟨h3, rfl, H3, D3⟩
  rw [E2.out]
  rw [← HDC.out] at H3
  have hu3 := D3.below H2a (Nat.le_refl _) (hu2.trans hua)
  have hg3 : h3.g = h1.g := D3.g.trans D2.g
  have hcb := syncDir_any H3 okc (by have := NC.out; omega)
  rw [hg3] at hcb
  have HCB := Lib.hid hcb
  have HG3 := Lib.hid hg3
  clear HCA hcb H2a H1 H2 hg3
  go_wp2_with fail
  refine HCB.out.mono ?_
  rintro e w4 ⟨h4, rfl, H4, D4⟩
  rw [E3.out]
  rw [← HDD.out] at H4
  have hu4 := D4.below H3 (Nat.le_refl _) hu3
  have hub : Up w4 (w4.alloc (.cells #[.int .i64 2] 3)) := (Up.refl w4).alloc _
  have hrb : Rd (w4.alloc (.cells #[.int .i64 2] 3)) (w4.alloc (.cells #[.int .i64 2] 3)).heap.size 1 (some ⟨w4.heap.size, 0, none⟩) 1 (izs [2]) := Rd.box w4 (.int .i64 2) 3
  have H4b := H4.up hub
  have hg4 : h4.g = h1.g := D4.g.trans HG3.out
  have hcc := crash_any H4b okd (some ⟨w4.heap.size, 0, none⟩) 1 1 [2] hrb (by omega) (by omega) (fun x hx => by rw [List.mem_singleton] at hx; subst hx; omega) (fun _ a ha hf => by
    injection ha with ha
    subst ha
    exact Nat.lt_irrefl _ (H4.lt hf).2) (fun _ a ha => by
    injection ha with ha
    subst ha
    rw [World.size_alloc]
    exact Nat.lt_succ_self _) (fun t ht => by rw [ND.out.2] at ht; cases ht)
  rw [hg4] at hcc
  have HCC := Lib.hid hcc
  have HG4 := Lib.hid hg4
  clear HCB hcc hrb H3 D2 D3 hg4 HG3 hua hu1 hu2 hu3
  go_wp2_with fail
  refine HCC.out.mono ?_
  rintro e w5 ⟨h5, rfl, H5, D5⟩
  rw [← HDE.out] at H5
  have hu5 := D5.below H4b (Nat.le_refl _) (hu4.trans hub)
  have hg5 : h5.g = h1.g := D5.g.trans HG4.out
  have hcd := dread_any H5 oke [97] (by decide)
  rw [hg5, E4.out] at hcd
  have HCD := Lib.hid hcd
  have HG5 := Lib.hid hg5
  clear HCC hcd H4 H4b D4 D5 hg5 HG4 hub hu4
  go_wp2_with fail
  refine HCD.out.mono ?_
  rintro e w6 ⟨R, rn, rc, rfl, hown6, hu6⟩
  have H6 := H5.up hu6
  have hu6' := hu5.trans hu6
  have hcv : (convert 31 9 (.slice R rn rc)).run Try.prog w6 = .ok (.string (tx [120, 121])) w6 := run_str rc hown6.rd
  have hce := calls_any H6
  rw [HG5.out, E5.out] at hce
  have HCE := Lib.hid hce
  clear hce H5 H6 HCD hown6 hu6 hu5
  go_wp2_with fail
  refine HCE.out.mono ?_
  rintro e w7 ⟨rfl, rfl⟩
  go_wp2_with fail
  go_ret
  exact ⟨rfl, hu6'⟩
end Go.Proofs.Ytebhhfmekmpnkaa
