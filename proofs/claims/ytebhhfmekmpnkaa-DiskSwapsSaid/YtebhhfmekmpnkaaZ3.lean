/-
  Texts of this claim, joined: DkR, DkSw, DkSw2, DkBytes, Conv, Open, OpenE, OpenZ, Num, NumLaw.
-/
import Derived.IntWalk
import Derived.Lib.ConvBytes
import Derived.ProofKit
import Derived.OpenShut
import Derived.ShutString
import Derived.ChangeOld
import Derived.Deep.Slices
import Derived.Deep.Fields
import Derived.Test.YtebhhfmekmpnkaaZ2
/-
  The walks of the disk's Remove and Rename.
-/
namespace Go.Proofs.Ytebhhfmekmpnkaa
open Go.RowKit Go.Maps
set_option linter.unusedVariables false
set_option linter.unusedSimpArgs false

def removeD (d : Dk) (s : List UInt8) : Dk × Nat :=
  if (callN [s] d).2 ≠ 0 then ((callN [s] d).1, (callN [s] d).2)
  else if Maps.has d.names (nk s) = false then ((callN [s] d).1, 11)
  else ({ (callN [s] d).1 with names := doM ⟨3, 0, s, []⟩ d.names, turns := d.turns ++ [⟨3, 0, s, []⟩] }, 0)
def renameD (d : Dk) (a b : List UInt8) : Dk × Nat :=
  if (callN [a, b] d).2 ≠ 0 then ((callN [a, b] d).1, (callN [a, b] d).2)
  else if Maps.has d.names (nk a) = false then ((callN [a, b] d).1, 11)
  else if a = b then ((callN [a, b] d).1, 0)
  else ({ (callN [a, b] d).1 with names := doM ⟨2, 0, a, b⟩ d.names, turns := d.turns ++ [⟨2, 0, a, b⟩] }, 0)
theorem turned_ok {d : Dk} (h : DkOk d) (t : Tn) (ht : t.kind ≠ 1) (hn : d.turns.length < 1000000) (hs : Maps.size d.names < 1000000) : DkOk { d with names := doM t d.names, turns := d.turns ++ [t] } := by
  refine ⟨doM_ok h.nm t (fun e => absurd e ht), h.la, fun x hx => ?_, h.nf, by simp; omega, by have := doM_size h.nm t; show Maps.size (doM t d.names) ≤ _; omega, h.sl, h.fb, h.s, h.f, h.q⟩
  rcases List.mem_append.1 hx with hx | hx
  · exact h.tn x hx
  · rw [List.mem_singleton] at hx
    subst hx
    exact .inr ht
theorem removeD_ok {d : Dk} (h : DkOk d) (s : List UInt8) (hn : d.turns.length < 1000000) (hs : Maps.size d.names < 1000000) : DkOk (removeD d s).1 := by
  have hc := callN_ok (L := [s]) h
  obtain ⟨h1, h2, h3, h4, -⟩ := callN_same [s] d
  unfold removeD
  split
  · exact hc
  · split
    · exact hc
    · have h9 := turned_ok hc ⟨3, 0, s, []⟩ (show (3 : Nat) ≠ 1 by decide) (by rw [h4]; exact hn) (by rw [h2]; exact hs)
      rw [h2, h4] at h9
      exact h9
theorem renameD_ok {d : Dk} (h : DkOk d) (a b : List UInt8) (hn : d.turns.length < 1000000) (hs : Maps.size d.names < 1000000) : DkOk (renameD d a b).1 := by
  have hc := callN_ok (L := [a, b]) h
  obtain ⟨h1, h2, h3, h4, -⟩ := callN_same [a, b] d
  unfold renameD
  split
  · exact hc
  · split
    · exact hc
    · split
      · exact hc
      · have h9 := turned_ok hc ⟨2, 0, a, b⟩ (show (2 : Nat) ≠ 1 by decide) (by rw [h4]; exact hn) (by rw [h2]; exact hs)
        rw [h2, h4] at h9
        exact h9
set_option maxRecDepth 100000 in
set_option maxHeartbeats 1600000 in
theorem remove_any {B : Nat} {h : Hp} {d : Dk} {w : World} (H : DiskAt B h d w) (hok : DkOk d) (hcl : d.calls ≤ 1000000000) (hnt : d.turns.length < 1000000) (s : List UInt8) (hs : s.length ≤ 9223372036854775807) :
    Calls Try.prog 26 #[.pointer (some ⟨h.g, 0, none⟩), .string (tx s)] w fun e w' => ∃ h', e = .returned (.int .i64 ((removeD d s).2 : Int)) ∧ DiskAt B h' (removeD d s).1 w' ∧ DkTo h w h' w' := by
  have hb : Rd (w.alloc (.cells #[.string (tx s)] 9)) (w.alloc (.cells #[.string (tx s)] 9)).heap.size 1 (some ⟨w.heap.size, 0, none⟩) 1 (svs [s]) := Rd.box w (.string (tx s)) 9
  have H0 := H.up ((Up.refl w).alloc (.cells #[.string (tx s)] 9))
  have D0 : DkTo h w h (w.alloc (.cells #[.string (tx s)] 9)) := DkTo.up ((Up.refl w).alloc (.cells #[.string (tx s)] 9))
  have hcr : removeD d s = removeD d s := rfl
  conv at hcr => rhs; unfold removeD
  have HCR := Lib.hid hcr
  have hok1 := callN_ok (L := [s]) hok
  have hsame := callN_same [s] d
  have HSM := Lib.hid hsame
  clear hcr hsame
  go_enter Try.func26, Try.ntmps26
  go_wp2_with fail
  refine (call_any H0 hok hcl [s] (some ⟨w.heap.size, 0, none⟩) 1 1 hb (fun x hx => by rw [List.mem_singleton] at hx; subst hx; exact hs) (by omega)).mono ?_
  rintro e w1 ⟨rfl, H1, D1⟩
  have D01 := D0.trans D1
  clear H0 D0 D1 hb
  generalize callN [s] d = r at *
  obtain ⟨d1, ec⟩ := r
  (try dsimp only at *)
  by_cases he : ec ≠ 0
  · have heb : ((ec : Int) != 0) = true := by rw [bne_iff_ne]; omega
    have hcr2 := HCR.out
    rw [if_pos he] at hcr2
    have HC2 := Lib.hid hcr2
    clear hcr2 he
    go_wp2_with fail
    go_ret
    rw [HC2.out]
    exact ⟨h, rfl, H1, D01⟩
  · have heb : ((ec : Int) != 0) = false := by rw [bne_eq_false_iff_eq]; omega
    have hcr2 := HCR.out
    rw [if_neg he] at hcr2
    have HC2 := Lib.hid hcr2
    clear hcr2 he HCR
    obtain ⟨e1, e2, e3, e4, e5, e6, e7, e8⟩ := HSM.out
    go_wp2_with fail
    refine (find_any H1 hok1 s hs).mono ?_
    rintro e w2 ⟨rfl, hfi⟩
    rcases hfi with ⟨hfi, rfl⟩ | ⟨i, f, x, hfi, hf, hx, rfl⟩
    · have hh : Maps.has d.names (nk s) = false := by
        unfold findI at hfi
        rw [e2] at hfi
        split at hfi
        · cases hfi
        · rename_i h9; simpa using h9
      have hcr3 := HC2.out
      rw [if_pos hh] at hcr3
      have HC3 := Lib.hid hcr3
      clear hcr3 hfi hh e1 e2 e3 e4 e5 HC2
      go_wp2_with fail
      go_ret
      rw [HC3.out]
      exact ⟨h, rfl, H1, D01⟩
    · have hh : Maps.has d.names (nk s) = true := by
        unfold findI at hfi
        rw [e2] at hfi
        split at hfi
        · assumption
        · cases hfi
      have hcr3 := HC2.out
      rw [if_neg (by rw [hh]; decide)] at hcr3
      rw [← e2, ← e4] at hcr3
      have hnt1 : d1.turns.length < 1000000 := by rw [e4]; exact hnt
      have HC3 := Lib.hid hcr3
      have HNT := Lib.hid hnt1
      clear hcr3 hfi hh hf hx e1 e2 e3 e4 e5 HC2 HSM hnt1
      have hua : Up w1 (w1.alloc (.cells #[.int .i64 3, .int .i64 0, .string (tx s), Value.string { data := #[] }] 76)) := (Up.refl w1).alloc _
      have hblk := heap_alloc_new w1 (.cells #[.int .i64 3, .int .i64 0, .string (tx s), Value.string { data := #[] }] 76)
      have H2 := H1.up hua
      have D2 := D01.trans (DkTo.up (h := h) hua)
      have hgb : ¬ foot h w1.heap.size := fun hk => Nat.lt_irrefl _ (H1.lt hk).2
      go_upto_region 7 with fail
      generalize w1.alloc (.cells #[.int .i64 3, .int .i64 0, .string (tx s), Value.string { data := #[] }] 76) = W2 at *
      generalize w1.heap.size = g6 at *
      clear H1 D01 hua
      have b0 : W2.cell? ⟨g6, 0, none⟩ = some (.int .i64 3) := blk_cell hblk 0
      have b1 : W2.cell? ⟨g6, 1, none⟩ = some (.int .i64 0) := blk_cell hblk 1
      have b2 : W2.cell? ⟨g6, 2, none⟩ = some (.string (tx s)) := blk_cell hblk 2
      have b3 : W2.cell? ⟨g6, 3, none⟩ = some (Value.string { data := #[] }) := blk_cell hblk 3
      have c2 : W2.cell? ⟨h.g, 2, none⟩ = some (.map (some h.nb)) := blk_cell H2.hd 2
      have H2d := H2.up (Up.drew (Up.refl W2))
      have D2d := D2.trans (DkTo.up (h := h) (Up.drew (Up.refl W2)))
      have hblkd : W2.drew.heap[g6]? = some (.cells #[.int .i64 3, .int .i64 0, .string (tx s), Value.string { data := #[] }] 76 (0, 0)) := hblk
      have HDO : Hid (Calls Try.prog 43 #[.agg #[.int .i64 3, .int .i64 0, .string (tx s), Value.string { data := #[] }], .map (some h.nb)] W2.drew fun e w' => e = .returned (.tuple #[]) ∧ (∃ n', w'.ownsMap Try.prog 9 (plainElem Try.prog 3) h.nb n' (doM ⟨3, 0, s, []⟩ d1.names)) ∧ Rg.Keeps (fun k => k = h.nb) W2.drew w') := do_any ⟨3, 0, s, []⟩ h.nb _ _ d1.names W2.drew H2d.names (by have := hok1.sn; omega) hok1.nm hok1.nf (fun e => by cases e) (hs) (by simp)
      clear H2 D2 hblk
      go_still_tail 5, (by kernel_rfl)
      go_wp2_with fail
      refine HDO.out.mono ?_
      rintro e w3 ⟨rfl, ⟨n3, hm3⟩, hK3⟩
      obtain ⟨H3, D3⟩ := H2d.setNames (D' := doM ⟨3, 0, s, []⟩ d1.names) hK3 hm3
      have D23 := D2d.trans D3
      have hgb3 : w3.heap[g6]? = some (.cells #[.int .i64 3, .int .i64 0, .string (tx s), Value.string { data := #[] }] 76 (0, 0)) := (hK3.block g6 (Array.getElem?_eq_some_iff.1 hblkd).1 (fun e9 => hgb (.inr (.inl e9)))).trans hblkd
      have hgl3 : g6 < w3.heap.size := (Array.getElem?_eq_some_iff.1 hgb3).1
      have hgx : ¬ (g6 = h.g ∨ inA h.ta g6) := fun hx => hgb (hx.elim (fun e9 => .inl e9) (fun e9 => .inr (.inr (.inr (.inr (.inl e9))))))
      clear HDO D2d D3 hm3 hK3 hblkd b0 b1 b2 b3 c2
      obtain ⟨d3, hd3⟩ : ∃ d3 : Dk, d3 = { d1 with names := doM ⟨3, 0, s, []⟩ d1.names } := ⟨_, rfl⟩
      rw [← hd3] at H3
      have f4 : d3.turns.length ≤ 1000000 := by rw [hd3]; exact hok1.nt
      have HD3 := Lib.hid hd3
      clear hd3 H2d
      have hxo : ∀ g, (g = h.g ∨ inA h.ta g) → g < w3.heap.size := by
        rintro g (rfl | hg)
        · exact (H3.lt (.inl rfl)).2
        · exact (inA_own H3.turns hg).2
      have hS : ∀ W, Rg.Keeps (fun g => g = h.g ∨ inA h.ta g) w3.drew W → Rg.Keeps (fun g => g = h.g ∨ inA h.ta g) w3.drew W ∧ W.cell? ⟨g6, 0, none⟩ = some (.int .i64 3) ∧ W.cell? ⟨g6, 1, none⟩ = some (.int .i64 0) ∧ W.cell? ⟨g6, 2, none⟩ = some (.string (tx s)) ∧ W.cell? ⟨g6, 3, none⟩ = some (Value.string { data := #[] }) := fun W hK => by
        have hb : W.heap[g6]? = some (.cells #[.int .i64 3, .int .i64 0, .string (tx s), Value.string { data := #[] }] 76 (0, 0)) := (hK.block g6 hgl3 hgx).trans hgb3
        exact ⟨hK, blk_cell hb 0, blk_cell hb 1, blk_cell hb 2, blk_cell hb 3⟩
      have hbB : B ≤ w3.heap.size := by have := H3.lt (.inl rfl); omega
      go_upto_region 8 with fail
      obtain ⟨tt, htt⟩ : ∃ tt : Tn, tt = ⟨3, 0, s, []⟩ := ⟨_, rfl⟩
      have hcs : Tn.cs tt = [.int .i64 3, .int .i64 0, .string (tx s), Value.string { data := #[] }] := by rw [htt]; rfl
      have HCS := Lib.hid hcs
      have HTT := Lib.hid htt
      clear htt hcs
      apply Rg.region_own 11 _ (fun g => g = h.g ∨ inA h.ta g) (fun W => W.heap[h.g]? = some (.cells (dcs d3 h) 71 (0, 0)) ∧ W.ownsRow B 76 4 (.slice h.ta d3.turns.length h.tc) d3.turns.length (tcs d3.turns)) rfl (by kernel_rfl) (by kernel_rfl) hxo ⟨H3.hd, H3.turns⟩
        (fun v1 v2 hF hs => ⟨(hs.block h.g (Array.getElem?_eq_some_iff.1 hF.1).1 (.inr (.inl rfl))).trans hF.1, row_sta (Y := fun g => (g < w3.heap.size ∧ ¬ (g = h.g ∨ inA h.ta g)) ∨ (g = h.g ∨ inA h.ta g)) hF.2 ⟨hs.size, fun g hg hy => hs.block g hg (hy.elim id (fun ho => .inr (.inr (ob_inA ho))))⟩⟩) hS
      · intro QN hQN
        iterate 4 (apply Rg.RK.ok; (· intro vs w1 hS; go_simp; with_reducible rfl); (· rfl); simp only [Act.put, List.setIfInBounds_toArray, List.set_cons_zero, List.set_cons_succ, Nat.reduceAdd])
        apply Rg.RK.okU [11]
        · intro vs w9 hS9 hf
          obtain ⟨⟨hh, -⟩, -⟩ := hf
          have c4 : w9.cell? ⟨h.g, 4, none⟩ = some (.slice h.ta d3.turns.length h.tc) := blk_cell hh 4
          clear hh hS9
          go_simp
          with_reducible rfl
        · rfl
        simp only [Act.put, List.setIfInBounds_toArray, List.set_cons_zero, List.set_cons_succ, Nat.reduceAdd]
        iterate 1 (apply Rg.RK.ok; (· intro vs w1 hS; go_simp; with_reducible rfl); (· rfl); simp only [Act.put, List.setIfInBounds_toArray, List.set_cons_zero, List.set_cons_succ, Nat.reduceAdd])
        have hpc : ∀ y ∈ Tn.cs tt, y.oneCell' = true := fun y hy => by
          simp only [Tn.cs, List.mem_cons, List.not_mem_nil, or_false] at hy
          rcases hy with rfl | rfl | rfl | rfl <;> rfl
        apply Rg.RK.opn (fun v W1 => W1.ownsRow w3.heap.size 76 4 v 1 (Tn.cs tt)) Rg.ob [] []
        · exact fun v W1 W2 h hs => row_sta h hs
        · rfl
        · intro vs w9 hK hS9 _ K hKK
          go_simp
          refine hKK.out _ _ ?_ (Rg.Keeps.of_up ((Up.refl _).alloc _)) (by rintro g rfl; exact ⟨by simp, .inl (Nat.le_refl _)⟩)
          rw [HCS.out]
          exact row_new w9 _ _ hK.size rfl (by omega)
        simp only [Act.put, List.setIfInBounds_toArray, List.set_cons_zero, List.set_cons_succ, Nat.reduceAdd]
        apply Rg.RK.opn (fun v W => W.heap[h.g]? = some (.cells (dcs d3 h) 71 (0, 0)) ∧ W.ownsRow B 76 4 v (d3.turns.length + 1) (tcs d3.turns ++ Tn.cs tt) ∧ ∀ k, Rg.ob v k → inA h.ta k ∨ w3.heap.size ≤ k) (fun v g => g = h.g ∨ Rg.ob v g) [11, 6] [11]
        · rintro v v1 v2 ⟨f1, f2, f3⟩ hs
          exact ⟨(hs.block h.g (Array.getElem?_eq_some_iff.1 f1).1 (.inr (.inl rfl))).trans f1, row_sta (Y := fun g => (g < w3.drew.heap.size ∧ ¬ (g = h.g ∨ inA h.ta g)) ∨ (g = h.g ∨ Rg.ob v g)) f2 ⟨hs.size, fun g hg hy => hs.block g hg (hy.elim id (fun ho => .inr (.inr ho)))⟩, f3⟩
        · rfl
        · intro vs w9 hK hS9 hf K hKK
          obtain ⟨⟨hh, hrow⟩, h12, -⟩ := hf
          have h12' : w9.ownsRow w3.heap.size 76 4 (vs 6) 1 (Tn.cs tt) := h12
          obtain ⟨A12, c12, hv12⟩ := own_form h12'
          rw [hv12] at h12'
          (try dsimp only at hKK ⊢)
          rw [hv12] at hKK ⊢
          refine wp_append_rd _ _ _ turnsT rfl rfl rfl hrow (Rd.own h12') hpc (by omega) (by omega) (Nat.le_trans hbB hK.size) fun v' w5 ho' hg' hat' => ?_
          have hKr := keepsRow hrow hg'
          refine hKK.out _ _ ⟨?_, ho', fun k hk => ?_⟩ (Keeps.weak hKr fun y hy => ⟨11, List.mem_singleton.2 rfl, .inr hy⟩) (fun y hy => ?_)
          · refine (hKr.block h.g (Array.getElem?_eq_some_iff.1 hh).1 (fun hx => ?_)).trans hh
            have h1 := kd_row hrow hx
            rw [kd_cells hh] at h1
            exact absurd h1 (by decide)
          · obtain ⟨A', c', rfl⟩ := own_form ho'
            rcases at_inA hat' k (ob_inA hk) with h9 | h9
            · exact .inl h9
            · exact .inr (Nat.le_trans hK.size h9)
          · rcases hy with rfl | hy
            · exact ⟨Nat.lt_of_lt_of_le (Array.getElem?_eq_some_iff.1 hh).1 hKr.size, .inr ⟨11, List.mem_singleton.2 rfl, .inl rfl⟩⟩
            · obtain ⟨A', c', rfl⟩ := own_form ho'
              refine ⟨(inA_own ho' (ob_inA hy)).2, ?_⟩
              rcases at_inA hat' y (ob_inA hy) with h9 | h9
              · exact .inr ⟨11, List.mem_singleton.2 rfl, .inr h9⟩
              · exact .inl h9
        simp only [Act.put, List.setIfInBounds_toArray, List.set_cons_zero, List.set_cons_succ, Nat.reduceAdd]
        iterate 2 (apply Rg.RK.ok; (· intro vs w1 hS; go_simp; with_reducible rfl); (· rfl); simp only [Act.put, List.setIfInBounds_toArray, List.set_cons_zero, List.set_cons_succ, Nat.reduceAdd])
        apply Rg.RK.opD (fun vs W => ∃ T2 tc2, vs 7 = .slice T2 (d3.turns.length + 1) tc2 ∧ W.heap[h.g]? = some (.cells (dcs { d3 with turns := d3.turns ++ [tt] } { h with ta := T2, tc := tc2 }) 71 (0, 0)) ∧ W.ownsRow B 76 4 (.slice T2 (d3.turns.length + 1) tc2) (d3.turns.length + 1) (tcs d3.turns ++ Tn.cs tt) ∧ ∀ k, inA T2 k → inA h.ta k ∨ w3.heap.size ≤ k) (fun vs g => g = h.g ∨ Rg.ob (vs 7) g) [7] [7] [7] (fun vs vs' h => by rw [h 7 (by simp)]; exact ⟨rfl, rfl⟩)
        · rintro vs v1 v2 ⟨T2, tc2, f0, f1, f2, f3⟩ hs
          exact ⟨T2, tc2, f0, (hs.block h.g (Array.getElem?_eq_some_iff.1 f1).1 (.inr (.inl rfl))).trans f1, row_sta (Y := fun g => (g < w3.drew.heap.size ∧ ¬ (g = h.g ∨ inA h.ta g)) ∨ (g = h.g ∨ Rg.ob (vs 7) g)) f2 ⟨hs.size, fun g hg hy => hs.block g hg (hy.elim id (fun ho => .inr (.inr (by rw [f0]; exact ho))))⟩, f3⟩
        · rfl
        · intro vs w9 hK hS9 hf K hKK
          obtain ⟨h13, -⟩ := hf
          obtain ⟨hh, hrow, hat⟩ := h13
          have hrow' : w9.ownsRow B 76 4 (vs 7) (d3.turns.length + 1) (tcs d3.turns ++ Tn.cs tt) := hrow
          obtain ⟨T2, tc2, hv13⟩ := own_form hrow'
          have t4 : w9.cell? ⟨h.g, 4, none⟩ = some (.slice h.ta d3.turns.length h.tc) := blk_cell hh 4
          have s4 := blk_free hh 4
          have hset := setc_heap w9 h.g 4 (.slice T2 (d3.turns.length + 1) tc2) _ _ hh
          have hK9 : Rg.Keeps (fun k => k = h.g) w9 (w9.setCell ⟨h.g, 4, none⟩ (.slice T2 (d3.turns.length + 1) tc2)) := setc_keeps _ _ _ _ _ (Rg.Keeps.refl _ _)
          rw [hv13] at hrow'
          have hat2 : ∀ k, inA T2 k → inA h.ta k ∨ w3.heap.size ≤ k := fun k hk => hat k (by
            show Rg.ob (vs 7) k
            rw [hv13]
            obtain ⟨a, rfl, e⟩ := hk
            exact e)
          have hrow2 := own_keepsX hrow' hK9 (fun k hk e => by
            have h1 := kd_row hrow' hk
            rw [e, kd_cells hh] at h1
            exact absurd h1 (by decide))
          (try dsimp only at hKK ⊢)
          rw [hv13] at hKK ⊢
          have HV := Lib.hid hv13
          have HH := Lib.hid hh
          clear hv13 hat hrow hh hS9
          go_simp
          refine hKK.out undef _ ⟨T2, tc2, ?_, ?_, hrow2, hat2⟩ (Keeps.weak hK9 fun y hy => ⟨7, List.mem_singleton.2 rfl, .inl hy⟩) (fun y hy => ?_)
          · rw [Rg.upd_ne _ _ (by decide)]; exact HV.out
          · rw [hset]
            simp [dcs]
          · have hy' : y = h.g ∨ Rg.ob (vs 7) y := by simpa only [Rg.upd_ne _ _ (show 7 ≠ 10 by decide)] using hy
            rcases hy' with rfl | hy'
            · exact ⟨Nat.lt_of_lt_of_le (Array.getElem?_eq_some_iff.1 HH.out).1 hK9.size, .inr ⟨7, List.mem_singleton.2 rfl, .inl rfl⟩⟩
            · rw [HV.out] at hy'
              refine ⟨(inA_own hrow2 (ob_inA hy')).2, .inr ⟨7, List.mem_singleton.2 rfl, .inr ?_⟩⟩
              show Rg.ob (vs 7) y
              rw [HV.out]; exact hy'
        simp only [Act.put, List.setIfInBounds_toArray, List.set_cons_zero, List.set_cons_succ, Nat.reduceAdd]
        apply Rg.RK.fin [10]
        intro vs w9 hK hS9 hf
        obtain ⟨h16, -⟩ := hf
        obtain ⟨T2, tc2, hv13, hh, hrow, hat⟩ := h16
        refine hQN.out _ _ ?_
        clear hQN hS9
        (try dsimp only)
        rw [hv13]
        have H3d := H3.up (Up.drew (Up.refl w3))
        obtain ⟨H4, K4, F4⟩ := H3d.setTurnsF (d3.turns ++ [tt]) (m0 := w3.heap.size) hh (by rw [List.length_append]; unfold tcs at hrow ⊢; rw [List.flatMap_append]; simpa using hrow) hK (Nat.le_refl _) hat
        have D4 : DkTo h w { h with ta := T2, tc := tc2 } w9 := D23.trans ⟨rfl, ⟨K4.os, K4.tape, K4.output, K4.size, K4.block⟩, F4⟩
        clear hv13 hh hrow hat hK K4 F4 H3d H3 D23 hxo hS hbB hpc
        go_wp2_with fail
        go_ret
        rw [HC3.out]
        rw [HD3.out, HTT.out] at H4
        first | exact ⟨_, rfl, H4, D4⟩ | exact ⟨rfl, _, H4, D4⟩
      · kernel_rfl
set_option maxRecDepth 100000 in
set_option maxHeartbeats 1600000 in
theorem rename_any {B : Nat} {h : Hp} {d : Dk} {w : World} (H : DiskAt B h d w) (hok : DkOk d) (hcl : d.calls ≤ 1000000000) (hnt : d.turns.length < 1000000) (a b : List UInt8) (ha : a.length ≤ 9223372036854775807) (hb0 : b.length ≤ 9223372036854775807) :
    Calls Try.prog 27 #[.pointer (some ⟨h.g, 0, none⟩), .string (tx a), .string (tx b)] w fun e w' => ∃ h', e = .returned (.int .i64 ((renameD d a b).2 : Int)) ∧ DiskAt B h' (renameD d a b).1 w' ∧ DkTo h w h' w' := by
  have hb : Rd (w.alloc (.cells #[.string (tx a), .string (tx b)] 9)) (w.alloc (.cells #[.string (tx a), .string (tx b)] 9)).heap.size 1 (some ⟨w.heap.size, 0, none⟩) 2 (svs [a, b]) := Rd.made w #[.string (tx a), .string (tx b)] 9 rfl
  have H0 := H.up ((Up.refl w).alloc (.cells #[.string (tx a), .string (tx b)] 9))
  have D0 : DkTo h w h (w.alloc (.cells #[.string (tx a), .string (tx b)] 9)) := DkTo.up ((Up.refl w).alloc (.cells #[.string (tx a), .string (tx b)] 9))
  have hcr : renameD d a b = renameD d a b := rfl
  conv at hcr => rhs; unfold renameD
  have HCR := Lib.hid hcr
  have hok1 := callN_ok (L := [a, b]) hok
  have hsame := callN_same [a, b] d
  have HSM := Lib.hid hsame
  clear hcr hsame
  go_enter Try.func27, Try.ntmps27
  go_wp2_with fail
  refine (call_any H0 hok hcl [a, b] (some ⟨w.heap.size, 0, none⟩) 2 2 hb (fun x hx => by simp only [List.mem_cons, List.not_mem_nil, or_false] at hx; rcases hx with rfl | rfl <;> assumption) (by omega)).mono ?_
  rintro e w1 ⟨rfl, H1, D1⟩
  have D01 := D0.trans D1
  clear H0 D0 D1 hb
  generalize callN [a, b] d = r at *
  obtain ⟨d1, ec⟩ := r
  (try dsimp only at *)
  by_cases he : ec ≠ 0
  · have heb : ((ec : Int) != 0) = true := by rw [bne_iff_ne]; omega
    have hcr2 := HCR.out
    rw [if_pos he] at hcr2
    have HC2 := Lib.hid hcr2
    clear hcr2 he
    go_wp2_with fail
    go_ret
    rw [HC2.out]
    exact ⟨h, rfl, H1, D01⟩
  · have heb : ((ec : Int) != 0) = false := by rw [bne_eq_false_iff_eq]; omega
    have hcr2 := HCR.out
    rw [if_neg he] at hcr2
    have HC2 := Lib.hid hcr2
    clear hcr2 he HCR
    obtain ⟨e1, e2, e3, e4, e5, e6, e7, e8⟩ := HSM.out
    go_wp2_with fail
    refine (find_any H1 hok1 a ha).mono ?_
    rintro e w2 ⟨rfl, hfi⟩
    rcases hfi with ⟨hfi, rfl⟩ | ⟨i, f, x, hfi, hf, hx, rfl⟩
    · have hh : Maps.has d.names (nk a) = false := by
        unfold findI at hfi
        rw [e2] at hfi
        split at hfi
        · cases hfi
        · rename_i h9; simpa using h9
      have hcr3 := HC2.out
      rw [if_pos hh] at hcr3
      have HC3 := Lib.hid hcr3
      clear hcr3 hfi hh e1 e2 e3 e4 e5 HC2
      go_wp2_with fail
      go_ret
      rw [HC3.out]
      exact ⟨h, rfl, H1, D01⟩
    · have hh : Maps.has d.names (nk a) = true := by
        unfold findI at hfi
        rw [e2] at hfi
        split at hfi
        · assumption
        · cases hfi
      have hcr3 := HC2.out
      rw [if_neg (by rw [hh]; decide)] at hcr3
      by_cases hab : a = b
      · rw [if_pos hab] at hcr3
        have HC3 := Lib.hid hcr3
        have hsame : ((tx a).toList == (tx b).toList) = true := tx_beq hab
        clear hcr3 hfi hh hf hx e1 e2 e3 e4 e5 HC2 HSM hab
        go_wp2_with fail
        go_ret
        rw [HC3.out]
        exact ⟨h, rfl, H1, D01⟩
      rw [if_neg hab, ← e2, ← e4] at hcr3
      have hsame : ((tx a).toList == (tx b).toList) = false := tx_bne hab
      have hnt1 : d1.turns.length < 1000000 := by rw [e4]; exact hnt
      have HC3 := Lib.hid hcr3
      have HNT := Lib.hid hnt1
      clear hcr3 hfi hh hf hx e1 e2 e3 e4 e5 HC2 HSM hnt1 hab
      have hua : Up w1 (w1.alloc (.cells #[.int .i64 2, .int .i64 0, .string (tx a), Value.string (tx b)] 76)) := (Up.refl w1).alloc _
      have hblk := heap_alloc_new w1 (.cells #[.int .i64 2, .int .i64 0, .string (tx a), Value.string (tx b)] 76)
      have H2 := H1.up hua
      have D2 := D01.trans (DkTo.up (h := h) hua)
      have hgb : ¬ foot h w1.heap.size := fun hk => Nat.lt_irrefl _ (H1.lt hk).2
      go_upto_region 9 with fail
      generalize w1.alloc (.cells #[.int .i64 2, .int .i64 0, .string (tx a), Value.string (tx b)] 76) = W2 at *
      generalize w1.heap.size = g6 at *
      clear H1 D01 hua
      have b0 : W2.cell? ⟨g6, 0, none⟩ = some (.int .i64 2) := blk_cell hblk 0
      have b1 : W2.cell? ⟨g6, 1, none⟩ = some (.int .i64 0) := blk_cell hblk 1
      have b2 : W2.cell? ⟨g6, 2, none⟩ = some (.string (tx a)) := blk_cell hblk 2
      have b3 : W2.cell? ⟨g6, 3, none⟩ = some (Value.string (tx b)) := blk_cell hblk 3
      have c2 : W2.cell? ⟨h.g, 2, none⟩ = some (.map (some h.nb)) := blk_cell H2.hd 2
      have H2d := H2.up (Up.drew (Up.refl W2))
      have D2d := D2.trans (DkTo.up (h := h) (Up.drew (Up.refl W2)))
      have hblkd : W2.drew.heap[g6]? = some (.cells #[.int .i64 2, .int .i64 0, .string (tx a), Value.string (tx b)] 76 (0, 0)) := hblk
      have HDO : Hid (Calls Try.prog 43 #[.agg #[.int .i64 2, .int .i64 0, .string (tx a), Value.string (tx b)], .map (some h.nb)] W2.drew fun e w' => e = .returned (.tuple #[]) ∧ (∃ n', w'.ownsMap Try.prog 9 (plainElem Try.prog 3) h.nb n' (doM ⟨2, 0, a, b⟩ d1.names)) ∧ Rg.Keeps (fun k => k = h.nb) W2.drew w') := do_any ⟨2, 0, a, b⟩ h.nb _ _ d1.names W2.drew H2d.names (by have := hok1.sn; omega) hok1.nm hok1.nf (fun e => by cases e) (ha) (hb0)
      clear H2 D2 hblk
      go_still_tail 5, (by kernel_rfl)
      go_wp2_with fail
      refine HDO.out.mono ?_
      rintro e w3 ⟨rfl, ⟨n3, hm3⟩, hK3⟩
      obtain ⟨H3, D3⟩ := H2d.setNames (D' := doM ⟨2, 0, a, b⟩ d1.names) hK3 hm3
      have D23 := D2d.trans D3
      have hgb3 : w3.heap[g6]? = some (.cells #[.int .i64 2, .int .i64 0, .string (tx a), Value.string (tx b)] 76 (0, 0)) := (hK3.block g6 (Array.getElem?_eq_some_iff.1 hblkd).1 (fun e9 => hgb (.inr (.inl e9)))).trans hblkd
      have hgl3 : g6 < w3.heap.size := (Array.getElem?_eq_some_iff.1 hgb3).1
      have hgx : ¬ (g6 = h.g ∨ inA h.ta g6) := fun hx => hgb (hx.elim (fun e9 => .inl e9) (fun e9 => .inr (.inr (.inr (.inr (.inl e9))))))
      clear HDO D2d D3 hm3 hK3 hblkd b0 b1 b2 b3 c2
      obtain ⟨d3, hd3⟩ : ∃ d3 : Dk, d3 = { d1 with names := doM ⟨2, 0, a, b⟩ d1.names } := ⟨_, rfl⟩
      rw [← hd3] at H3
      have f4 : d3.turns.length ≤ 1000000 := by rw [hd3]; exact hok1.nt
      have HD3 := Lib.hid hd3
      clear hd3 H2d
      have hxo : ∀ g, (g = h.g ∨ inA h.ta g) → g < w3.heap.size := by
        rintro g (rfl | hg)
        · exact (H3.lt (.inl rfl)).2
        · exact (inA_own H3.turns hg).2
      have hS : ∀ W, Rg.Keeps (fun g => g = h.g ∨ inA h.ta g) w3.drew W → Rg.Keeps (fun g => g = h.g ∨ inA h.ta g) w3.drew W ∧ W.cell? ⟨g6, 0, none⟩ = some (.int .i64 2) ∧ W.cell? ⟨g6, 1, none⟩ = some (.int .i64 0) ∧ W.cell? ⟨g6, 2, none⟩ = some (.string (tx a)) ∧ W.cell? ⟨g6, 3, none⟩ = some (Value.string (tx b)) := fun W hK => by
        have hb : W.heap[g6]? = some (.cells #[.int .i64 2, .int .i64 0, .string (tx a), Value.string (tx b)] 76 (0, 0)) := (hK.block g6 hgl3 hgx).trans hgb3
        exact ⟨hK, blk_cell hb 0, blk_cell hb 1, blk_cell hb 2, blk_cell hb 3⟩
      have hbB : B ≤ w3.heap.size := by have := H3.lt (.inl rfl); omega
      go_upto_region 10 with fail
      obtain ⟨tt, htt⟩ : ∃ tt : Tn, tt = ⟨2, 0, a, b⟩ := ⟨_, rfl⟩
      have hcs : Tn.cs tt = [.int .i64 2, .int .i64 0, .string (tx a), Value.string (tx b)] := by rw [htt]; rfl
      have HCS := Lib.hid hcs
      have HTT := Lib.hid htt
      clear htt hcs
      apply Rg.region_own 11 _ (fun g => g = h.g ∨ inA h.ta g) (fun W => W.heap[h.g]? = some (.cells (dcs d3 h) 71 (0, 0)) ∧ W.ownsRow B 76 4 (.slice h.ta d3.turns.length h.tc) d3.turns.length (tcs d3.turns)) rfl (by kernel_rfl) (by kernel_rfl) hxo ⟨H3.hd, H3.turns⟩
        (fun v1 v2 hF hs => ⟨(hs.block h.g (Array.getElem?_eq_some_iff.1 hF.1).1 (.inr (.inl rfl))).trans hF.1, row_sta (Y := fun g => (g < w3.heap.size ∧ ¬ (g = h.g ∨ inA h.ta g)) ∨ (g = h.g ∨ inA h.ta g)) hF.2 ⟨hs.size, fun g hg hy => hs.block g hg (hy.elim id (fun ho => .inr (.inr (ob_inA ho))))⟩⟩) hS
      · intro QN hQN
        iterate 4 (apply Rg.RK.ok; (· intro vs w1 hS; go_simp; with_reducible rfl); (· rfl); simp only [Act.put, List.setIfInBounds_toArray, List.set_cons_zero, List.set_cons_succ, Nat.reduceAdd])
        apply Rg.RK.okU [11]
        · intro vs w9 hS9 hf
          obtain ⟨⟨hh, -⟩, -⟩ := hf
          have c4 : w9.cell? ⟨h.g, 4, none⟩ = some (.slice h.ta d3.turns.length h.tc) := blk_cell hh 4
          clear hh hS9
          go_simp
          with_reducible rfl
        · rfl
        simp only [Act.put, List.setIfInBounds_toArray, List.set_cons_zero, List.set_cons_succ, Nat.reduceAdd]
        iterate 1 (apply Rg.RK.ok; (· intro vs w1 hS; go_simp; with_reducible rfl); (· rfl); simp only [Act.put, List.setIfInBounds_toArray, List.set_cons_zero, List.set_cons_succ, Nat.reduceAdd])
        have hpc : ∀ y ∈ Tn.cs tt, y.oneCell' = true := fun y hy => by
          simp only [Tn.cs, List.mem_cons, List.not_mem_nil, or_false] at hy
          rcases hy with rfl | rfl | rfl | rfl <;> rfl
        apply Rg.RK.opn (fun v W1 => W1.ownsRow w3.heap.size 76 4 v 1 (Tn.cs tt)) Rg.ob [] []
        · exact fun v W1 W2 h hs => row_sta h hs
        · rfl
        · intro vs w9 hK hS9 _ K hKK
          go_simp
          refine hKK.out _ _ ?_ (Rg.Keeps.of_up ((Up.refl _).alloc _)) (by rintro g rfl; exact ⟨by simp, .inl (Nat.le_refl _)⟩)
          rw [HCS.out]
          exact row_new w9 _ _ hK.size rfl (by omega)
        simp only [Act.put, List.setIfInBounds_toArray, List.set_cons_zero, List.set_cons_succ, Nat.reduceAdd]
        apply Rg.RK.opn (fun v W => W.heap[h.g]? = some (.cells (dcs d3 h) 71 (0, 0)) ∧ W.ownsRow B 76 4 v (d3.turns.length + 1) (tcs d3.turns ++ Tn.cs tt) ∧ ∀ k, Rg.ob v k → inA h.ta k ∨ w3.heap.size ≤ k) (fun v g => g = h.g ∨ Rg.ob v g) [11, 6] [11]
        · rintro v v1 v2 ⟨f1, f2, f3⟩ hs
          exact ⟨(hs.block h.g (Array.getElem?_eq_some_iff.1 f1).1 (.inr (.inl rfl))).trans f1, row_sta (Y := fun g => (g < w3.drew.heap.size ∧ ¬ (g = h.g ∨ inA h.ta g)) ∨ (g = h.g ∨ Rg.ob v g)) f2 ⟨hs.size, fun g hg hy => hs.block g hg (hy.elim id (fun ho => .inr (.inr ho)))⟩, f3⟩
        · rfl
        · intro vs w9 hK hS9 hf K hKK
          obtain ⟨⟨hh, hrow⟩, h12, -⟩ := hf
          have h12' : w9.ownsRow w3.heap.size 76 4 (vs 6) 1 (Tn.cs tt) := h12
          obtain ⟨A12, c12, hv12⟩ := own_form h12'
          rw [hv12] at h12'
          (try dsimp only at hKK ⊢)
          rw [hv12] at hKK ⊢
          refine wp_append_rd _ _ _ turnsT rfl rfl rfl hrow (Rd.own h12') hpc (by omega) (by omega) (Nat.le_trans hbB hK.size) fun v' w5 ho' hg' hat' => ?_
          have hKr := keepsRow hrow hg'
          refine hKK.out _ _ ⟨?_, ho', fun k hk => ?_⟩ (Keeps.weak hKr fun y hy => ⟨11, List.mem_singleton.2 rfl, .inr hy⟩) (fun y hy => ?_)
          · refine (hKr.block h.g (Array.getElem?_eq_some_iff.1 hh).1 (fun hx => ?_)).trans hh
            have h1 := kd_row hrow hx
            rw [kd_cells hh] at h1
            exact absurd h1 (by decide)
          · obtain ⟨A', c', rfl⟩ := own_form ho'
            rcases at_inA hat' k (ob_inA hk) with h9 | h9
            · exact .inl h9
            · exact .inr (Nat.le_trans hK.size h9)
          · rcases hy with rfl | hy
            · exact ⟨Nat.lt_of_lt_of_le (Array.getElem?_eq_some_iff.1 hh).1 hKr.size, .inr ⟨11, List.mem_singleton.2 rfl, .inl rfl⟩⟩
            · obtain ⟨A', c', rfl⟩ := own_form ho'
              refine ⟨(inA_own ho' (ob_inA hy)).2, ?_⟩
              rcases at_inA hat' y (ob_inA hy) with h9 | h9
              · exact .inr ⟨11, List.mem_singleton.2 rfl, .inr h9⟩
              · exact .inl h9
        simp only [Act.put, List.setIfInBounds_toArray, List.set_cons_zero, List.set_cons_succ, Nat.reduceAdd]
        iterate 2 (apply Rg.RK.ok; (· intro vs w1 hS; go_simp; with_reducible rfl); (· rfl); simp only [Act.put, List.setIfInBounds_toArray, List.set_cons_zero, List.set_cons_succ, Nat.reduceAdd])
        apply Rg.RK.opD (fun vs W => ∃ T2 tc2, vs 7 = .slice T2 (d3.turns.length + 1) tc2 ∧ W.heap[h.g]? = some (.cells (dcs { d3 with turns := d3.turns ++ [tt] } { h with ta := T2, tc := tc2 }) 71 (0, 0)) ∧ W.ownsRow B 76 4 (.slice T2 (d3.turns.length + 1) tc2) (d3.turns.length + 1) (tcs d3.turns ++ Tn.cs tt) ∧ ∀ k, inA T2 k → inA h.ta k ∨ w3.heap.size ≤ k) (fun vs g => g = h.g ∨ Rg.ob (vs 7) g) [7] [7] [7] (fun vs vs' h => by rw [h 7 (by simp)]; exact ⟨rfl, rfl⟩)
        · rintro vs v1 v2 ⟨T2, tc2, f0, f1, f2, f3⟩ hs
          exact ⟨T2, tc2, f0, (hs.block h.g (Array.getElem?_eq_some_iff.1 f1).1 (.inr (.inl rfl))).trans f1, row_sta (Y := fun g => (g < w3.drew.heap.size ∧ ¬ (g = h.g ∨ inA h.ta g)) ∨ (g = h.g ∨ Rg.ob (vs 7) g)) f2 ⟨hs.size, fun g hg hy => hs.block g hg (hy.elim id (fun ho => .inr (.inr (by rw [f0]; exact ho))))⟩, f3⟩
        · rfl
        · intro vs w9 hK hS9 hf K hKK
          obtain ⟨h13, -⟩ := hf
          obtain ⟨hh, hrow, hat⟩ := h13
          have hrow' : w9.ownsRow B 76 4 (vs 7) (d3.turns.length + 1) (tcs d3.turns ++ Tn.cs tt) := hrow
          obtain ⟨T2, tc2, hv13⟩ := own_form hrow'
          have t4 : w9.cell? ⟨h.g, 4, none⟩ = some (.slice h.ta d3.turns.length h.tc) := blk_cell hh 4
          have s4 := blk_free hh 4
          have hset := setc_heap w9 h.g 4 (.slice T2 (d3.turns.length + 1) tc2) _ _ hh
          have hK9 : Rg.Keeps (fun k => k = h.g) w9 (w9.setCell ⟨h.g, 4, none⟩ (.slice T2 (d3.turns.length + 1) tc2)) := setc_keeps _ _ _ _ _ (Rg.Keeps.refl _ _)
          rw [hv13] at hrow'
          have hat2 : ∀ k, inA T2 k → inA h.ta k ∨ w3.heap.size ≤ k := fun k hk => hat k (by
            show Rg.ob (vs 7) k
            rw [hv13]
            obtain ⟨a, rfl, e⟩ := hk
            exact e)
          have hrow2 := own_keepsX hrow' hK9 (fun k hk e => by
            have h1 := kd_row hrow' hk
            rw [e, kd_cells hh] at h1
            exact absurd h1 (by decide))
          (try dsimp only at hKK ⊢)
          rw [hv13] at hKK ⊢
          have HV := Lib.hid hv13
          have HH := Lib.hid hh
          clear hv13 hat hrow hh hS9
          go_simp
          refine hKK.out undef _ ⟨T2, tc2, ?_, ?_, hrow2, hat2⟩ (Keeps.weak hK9 fun y hy => ⟨7, List.mem_singleton.2 rfl, .inl hy⟩) (fun y hy => ?_)
          · rw [Rg.upd_ne _ _ (by decide)]; exact HV.out
          · rw [hset]
            simp [dcs]
          · have hy' : y = h.g ∨ Rg.ob (vs 7) y := by simpa only [Rg.upd_ne _ _ (show 7 ≠ 10 by decide)] using hy
            rcases hy' with rfl | hy'
            · exact ⟨Nat.lt_of_lt_of_le (Array.getElem?_eq_some_iff.1 HH.out).1 hK9.size, .inr ⟨7, List.mem_singleton.2 rfl, .inl rfl⟩⟩
            · rw [HV.out] at hy'
              refine ⟨(inA_own hrow2 (ob_inA hy')).2, .inr ⟨7, List.mem_singleton.2 rfl, .inr ?_⟩⟩
              show Rg.ob (vs 7) y
              rw [HV.out]; exact hy'
        simp only [Act.put, List.setIfInBounds_toArray, List.set_cons_zero, List.set_cons_succ, Nat.reduceAdd]
        apply Rg.RK.fin [10]
        intro vs w9 hK hS9 hf
        obtain ⟨h16, -⟩ := hf
        obtain ⟨T2, tc2, hv13, hh, hrow, hat⟩ := h16
        refine hQN.out _ _ ?_
        clear hQN hS9
        (try dsimp only)
        rw [hv13]
        have H3d := H3.up (Up.drew (Up.refl w3))
        obtain ⟨H4, K4, F4⟩ := H3d.setTurnsF (d3.turns ++ [tt]) (m0 := w3.heap.size) hh (by rw [List.length_append]; unfold tcs at hrow ⊢; rw [List.flatMap_append]; simpa using hrow) hK (Nat.le_refl _) hat
        have D4 : DkTo h w { h with ta := T2, tc := tc2 } w9 := D23.trans ⟨rfl, ⟨K4.os, K4.tape, K4.output, K4.size, K4.block⟩, F4⟩
        clear hv13 hh hrow hat hK K4 F4 H3d H3 D23 hxo hS hbB hpc
        go_wp2_with fail
        go_ret
        rw [HC3.out]
        rw [HD3.out, HTT.out] at H4
        first | exact ⟨_, rfl, H4, D4⟩ | exact ⟨rfl, _, H4, D4⟩
      · kernel_rfl
end Go.Proofs.Ytebhhfmekmpnkaa

/-
  A live disk: plain laws of one call (neither dead nor to stop nor to fail).
-/
namespace Go.Proofs.Ytebhhfmekmpnkaa
open Go.RowKit Go.Maps
set_option linter.unusedVariables false
set_option linter.unusedSimpArgs false

def sw (q : Nat) (fs : List Fi) (N La : Mp) (tu : List Tn) (c : Nat) : Dk := ⟨q, fs, N, La, tu, c, false, 0, 0⟩
section
variable {q c : Nat} {fs : List Fi} {N La : Mp} {tu : List Tn} {s : List UInt8} {i : Nat}
theorem sw_callN (hn : nameB s = true) : callN [s] (sw q fs N La tu c) = (sw q fs N La tu (c + 1), 0) := by
  unfold callN
  rw [if_pos (by simp [hn])]
  rfl
theorem sw_callN2 {t : List UInt8} (hn : nameB s = true) (ht : nameB t = true) : callN [s, t] (sw q fs N La tu c) = (sw q fs N La tu (c + 1), 0) := by
  unfold callN
  rw [if_pos (by simp [hn, ht])]
  rfl
theorem sw_create (hn : nameB s = true) (hh : Maps.has N (nk s) = false) (hs : Maps.size N < 64) : createD (sw q fs N La tu c) s = (sw q (fs ++ [⟨[], 0⟩]) (N.put (nk s) (fiv fs.length)) La (tu ++ [⟨1, fs.length, s, []⟩]) (c + 1), 0) := by
  unfold createD
  rw [sw_callN hn, if_neg (fun h => h rfl), if_neg (by show ¬ Maps.has N (nk s) = true; rw [hh]; decide), if_neg (by show ¬ 64 ≤ Maps.size N; omega)]
  rfl
theorem sw_append (hn : nameB s = true) (hf : findI (sw q fs N La tu c) s = some i) (p : List UInt8) (hl : (fs.getD i ⟨[], 0⟩).b.length + p.length ≤ 250000) (hu : usedM fs N + p.length ≤ q) : appendD (sw q fs N La tu c) s p = (sw q (fs.set i ⟨(fs.getD i ⟨[], 0⟩).b ++ p, (fs.getD i ⟨[], 0⟩).last⟩) N La tu (c + 1), 0) := by
  unfold appendD
  rw [sw_callN hn, hf]
  dsimp only
  have e1 : fileOf (sw q fs N La tu c) i = fs.getD i ⟨[], 0⟩ := rfl
  have e2 : (sw q fs N La tu c).quota = q := rfl
  have e3 : usedD (sw q fs N La tu c) = usedM fs N := rfl
  rw [e1, e2, e3, if_neg (fun h => h rfl), if_neg (by omega), if_neg (by omega)]
  rfl
theorem sw_sync (hn : nameB s = true) (hf : findI (sw q fs N La tu c) s = some i) : syncD (sw q fs N La tu c) s = (sw q (fs.set i ⟨(fs.getD i ⟨[], 0⟩).b, (fs.getD i ⟨[], 0⟩).b.length⟩) N La tu (c + 1), 0) := by
  unfold syncD
  rw [sw_callN hn, hf]
  dsimp only
  rw [if_neg (fun h => h rfl)]
  rfl
theorem sw_syncDir : syncDirD (sw q fs N La tu c) = (sw q fs N N [] (c + 1), 0) := rfl
theorem sw_rename {t : List UInt8} (hn : nameB s = true) (ht : nameB t = true) (hh : Maps.has N (nk s) = true) (hne : s ≠ t) : renameD (sw q fs N La tu c) s t = (sw q fs (doM ⟨2, 0, s, t⟩ N) La (tu ++ [⟨2, 0, s, t⟩]) (c + 1), 0) := by
  unfold renameD
  rw [sw_callN2 hn ht, if_neg (fun h => h rfl), if_neg (by show ¬ Maps.has N (nk s) = false; rw [hh]; decide), if_neg hne]
  rfl
theorem sw_read (hn : nameB s = true) (hf : findI (sw q fs N La tu c) s = some i) : readD (sw q fs N La tu c) s = ((fs.getD i ⟨[], 0⟩).b, 0) := by
  unfold readD
  rw [hf, if_neg (by rw [hn]; decide)]
  rfl
end
theorem crashF_still : ∀ (l : List Nat) (fs : List Fi) (keep : List Int), (∀ f ∈ fs, f.last = f.b.length) → crashF l fs keep = (fs, keep)
  | [], fs, keep, _ => rfl
  | i :: r, fs, keep, h => by
    have h0 : keepRest (fs.getD i ⟨[], 0⟩) = 0 := by
      by_cases hi : i < fs.length
      · have e : fs.getD i ⟨[], 0⟩ = fs[i] := by simp [List.getD, hi]
        rw [e]
        have := h _ (List.getElem_mem hi)
        unfold keepRest
        omega
      · have e : fs.getD i ⟨[], 0⟩ = ⟨[], 0⟩ := by simp [List.getD, hi]
        rw [e]; rfl
    unfold crashF
    rw [if_pos h0]
    exact crashF_still r fs keep h
theorem sw_crash {q c : Nat} {fs : List Fi} {N La : Mp} {tu : List Tn} (h : ∀ f ∈ fs, f.last = f.b.length) (keep : List Int) : crashD (sw q fs N La tu c) keep = sw q fs (crashT tu La keep).1 (crashT tu La keep).1 [] c := by
  unfold crashD
  rw [show (sw q fs N La tu c).files = fs from rfl, crashF_still _ _ _ h]
  rfl
theorem mok0 (n : Nat) : MOk (DataW.map [] : Mp) n := ⟨Maps.tidy_empty, fun kl hk => by simp [Maps.has] at hk⟩
theorem sw_ok {q c : Nat} {fs : List Fi} {N La : Mp} {tu : List Tn} (hN : MOk N fs.length) (hL : MOk La fs.length) (ht : ∀ t ∈ tu, t.file < fs.length ∨ t.kind ≠ 1) (h1 : fs.length ≤ 1000000) (h2 : tu.length ≤ 1000000) (h3 : Maps.size N ≤ 1000000) (h4 : Maps.size La ≤ 1000000) (hf : ∀ f ∈ fs, f.b.length ≤ 250000 ∧ f.last ≤ f.b.length) (hq : q ≤ 9223372036854775807) : DkOk (sw q fs N La tu c) :=
  ⟨hN, hL, ht, h1, h2, h3, h4, hf, Nat.zero_le _, Nat.zero_le _, hq⟩
end Go.Proofs.Ytebhhfmekmpnkaa

/-
  DiskSwaps: the plain law.
-/
namespace Go.Proofs.Ytebhhfmekmpnkaa.diskSwaps
open Go.RowKit Go.Maps
set_option linter.unusedVariables false
set_option linter.unusedSimpArgs false

/-! ### the law's -/
def mm (i : Nat) : Mp := .map [(nk [109], fiv i)]
def mt (i j : Nat) : Mp := .map [(nk [109], fiv i), (nk [116], fiv j)]
theorem mm_find {q c : Nat} {fs : List Fi} {La : Mp} {tu : List Tn} (i : Nat) : findI (sw q fs (mm i) La tu c) [109] = some i := by
  unfold findI
  rw [if_pos (show Maps.has (sw q fs (mm i) La tu c).names (nk [109]) = true from rfl), mget_of (i := i) (fun z => rfl)]
theorem mt_find {q c : Nat} {fs : List Fi} {La : Mp} {tu : List Tn} (i j : Nat) : findI (sw q fs (mt i j) La tu c) [109] = some i ∧ findI (sw q fs (mt i j) La tu c) [116] = some j := by
  constructor
  · unfold findI
    rw [if_pos (show Maps.has (sw q fs (mt i j) La tu c).names (nk [109]) = true from rfl), mget_of (i := i) (fun z => rfl)]
  · unfold findI
    rw [if_pos (show Maps.has (sw q fs (mt i j) La tu c).names (nk [116]) = true from rfl), mget_of (i := j) (fun z => rfl)]
theorem mm_ok {i n : Nat} (h : i < n) : MOk (mm i) n := (mok0 n).put h [109]
theorem mt_ok {i j n : Nat} (h : i < n) (hj : j < n) : MOk (mt i j) n := by
  have e : mt i j = ((DataW.map [] : Mp).put (nk [109]) (fiv i)).put (nk [116]) (fiv j) := rfl
  rw [e]
  exact ((mok0 n).put h [109]).put hj [116]
section
variable (p1 p2 : List UInt8)
def s1 : Dk := sw 1048576 [⟨[], 0⟩] (mm 0) (.map []) [⟨1, 0, [109], []⟩] 1
def s2 : Dk := sw 1048576 [⟨p1, 0⟩] (mm 0) (.map []) [⟨1, 0, [109], []⟩] 2
def s3 : Dk := sw 1048576 [⟨p1, p1.length⟩] (mm 0) (.map []) [⟨1, 0, [109], []⟩] 3
def s4 : Dk := sw 1048576 [⟨p1, p1.length⟩, ⟨[], 0⟩] (mt 0 1) (.map []) [⟨1, 0, [109], []⟩, ⟨1, 1, [116], []⟩] 4
def s5 : Dk := sw 1048576 [⟨p1, p1.length⟩, ⟨p2, 0⟩] (mt 0 1) (.map []) [⟨1, 0, [109], []⟩, ⟨1, 1, [116], []⟩] 5
def s6 : Dk := sw 1048576 [⟨p1, p1.length⟩, ⟨p2, p2.length⟩] (mt 0 1) (.map []) [⟨1, 0, [109], []⟩, ⟨1, 1, [116], []⟩] 6
def s7 : Dk := sw 1048576 [⟨p1, p1.length⟩, ⟨p2, p2.length⟩] (mt 0 1) (mt 0 1) [] 7
def s8 : Dk := sw 1048576 [⟨p1, p1.length⟩, ⟨p2, p2.length⟩] (mm 1) (mt 0 1) [⟨2, 0, [116], [109]⟩] 8
def s9 : Dk := sw 1048576 [⟨p1, p1.length⟩, ⟨p2, p2.length⟩] (mm 1) (mm 1) [] 9
def sX (new : Bool) (c : Nat) : Dk := if new = true then sw 1048576 [⟨p1, p1.length⟩, ⟨p2, p2.length⟩] (mm 1) (mm 1) [] c else sw 1048576 [⟨p1, p1.length⟩, ⟨p2, p2.length⟩] (mt 0 1) (mt 0 1) [] c
theorem e1 : createD (newD 1048576) [109] = (s1, 0) := rfl
variable {p1 p2}
theorem e2 (h1 : p1.length ≤ 255) : appendD s1 [109] p1 = (s2 p1, 0) := by
  unfold s1
  rw [sw_append (i := 0) (by decide) (mm_find 0) p1 (by simp; omega) (by show usedM _ (mm 0) + _ ≤ _; simp [usedM, mm, usedS, flenAt, fidx, fiv]; omega)]
  rfl
theorem e3 : syncD (s2 p1) [109] = (s3 p1, 0) := by
  unfold s2
  rw [sw_sync (i := 0) (by decide) (mm_find 0)]
  rfl
theorem e4 : createD (s3 p1) [116] = (s4 p1, 0) := by
  unfold s3
  rw [sw_create (by decide) rfl (by show 1 < 64; omega)]
  rfl
theorem e5 (h1 : p1.length ≤ 255) (h2 : p2.length ≤ 255) : appendD (s4 p1) [116] p2 = (s5 p1 p2, 0) := by
  unfold s4
  rw [sw_append (i := 1) (by decide) (mt_find 0 1).2 p2 (by simp; omega) (by show usedM _ (mt 0 1) + _ ≤ _; simp [usedM, mt, usedS, flenAt, fidx, fiv]; omega)]
  rfl
theorem e6 : syncD (s5 p1 p2) [116] = (s6 p1 p2, 0) := by
  unfold s5
  rw [sw_sync (i := 1) (by decide) (mt_find 0 1).2]
  rfl
theorem e7 : syncDirD (s6 p1 p2) = (s7 p1 p2, 0) := rfl
theorem e8 : renameD (s7 p1 p2) [116] [109] = (s8 p1 p2, 0) := by
  unfold s7
  rw [sw_rename (by decide) (by decide) rfl (by decide)]
  rfl
theorem e9 : syncDirD (s8 p1 p2) = (s9 p1 p2, 0) := rfl
theorem all_last : ∀ f ∈ [(⟨p1, p1.length⟩ : Fi), ⟨p2, p2.length⟩], f.last = f.b.length := by simp
theorem e10 (keep : List Int) : crashD (s9 p1 p2) keep = sX p1 p2 true 9 := by
  unfold s9
  rw [sw_crash all_last]
  rfl
theorem e11 (keep : List Int) : crashD (s8 p1 p2) keep = sX p1 p2 (evI (keep.headD 0)) 8 := by
  unfold s8
  rw [sw_crash all_last]
  have h : (crashT [⟨2, 0, [116], [109]⟩] (mt 0 1) keep).1 = if evI (keep.headD 0) = true then mm 1 else mt 0 1 := rfl
  rw [h]
  unfold sX
  cases evI (keep.headD 0) <;> rfl
theorem e12 (new : Bool) (c : Nat) : readD (sX p1 p2 new c) [109] = (if new = true then p2 else p1, 0) := by
  unfold sX
  cases new with
  | true => rw [if_pos rfl, if_pos rfl, sw_read (i := 1) (by decide) (mm_find 1)]; rfl
  | false => rw [if_neg (by decide), if_neg (by decide), sw_read (i := 0) (by decide) (mt_find 0 1).1]; rfl
theorem okFs (h1 : p1.length ≤ 255) (h2 : p2.length ≤ 255) : ∀ f ∈ [(⟨p1, p1.length⟩ : Fi), ⟨p2, p2.length⟩], f.b.length ≤ 250000 ∧ f.last ≤ f.b.length := by simp; omega
theorem s1_ok : DkOk s1 := sw_ok (mm_ok (by simp)) (mok0 _) (by simp) (by decide) (by decide) (by decide) (by decide) (by simp) (by decide)
theorem s2_ok (h1 : p1.length ≤ 255) : DkOk (s2 p1) := sw_ok (mm_ok (by simp)) (mok0 _) (by simp) (by simp) (by decide) (by decide) (by decide) (by simp; omega) (by decide)
theorem s3_ok (h1 : p1.length ≤ 255) : DkOk (s3 p1) := sw_ok (mm_ok (by simp)) (mok0 _) (by simp) (by simp) (by decide) (by decide) (by decide) (by simp; omega) (by decide)
theorem s4_ok (h1 : p1.length ≤ 255) : DkOk (s4 p1) := sw_ok (mt_ok (by simp) (by simp)) (mok0 _) (by simp) (by simp) (by decide) (by decide) (by decide) (by simp; omega) (by decide)
theorem s5_ok (h1 : p1.length ≤ 255) (h2 : p2.length ≤ 255) : DkOk (s5 p1 p2) := sw_ok (mt_ok (by simp) (by simp)) (mok0 _) (by simp) (by simp) (by decide) (by decide) (by decide) (by simp; omega) (by decide)
theorem s6_ok (h1 : p1.length ≤ 255) (h2 : p2.length ≤ 255) : DkOk (s6 p1 p2) := sw_ok (mt_ok (by simp) (by simp)) (mok0 _) (by simp) (by simp) (by decide) (by decide) (by decide) (okFs h1 h2) (by decide)
theorem s7_ok (h1 : p1.length ≤ 255) (h2 : p2.length ≤ 255) : DkOk (s7 p1 p2) := sw_ok (mt_ok (by simp) (by simp)) (mt_ok (by simp) (by simp)) (by simp) (by simp) (by decide) (by decide) (by decide) (okFs h1 h2) (by decide)
theorem s8_ok (h1 : p1.length ≤ 255) (h2 : p2.length ≤ 255) : DkOk (s8 p1 p2) := sw_ok (mm_ok (by simp)) (mt_ok (by simp) (by simp)) (by simp) (by simp) (by decide) (by decide) (by decide) (okFs h1 h2) (by decide)
theorem s9_ok (h1 : p1.length ≤ 255) (h2 : p2.length ≤ 255) : DkOk (s9 p1 p2) := sw_ok (mm_ok (by simp)) (mm_ok (by simp)) (by simp) (by simp) (by decide) (by decide) (by decide) (okFs h1 h2) (by decide)
theorem sX_ok (h1 : p1.length ≤ 255) (h2 : p2.length ≤ 255) (new : Bool) (c : Nat) : DkOk (sX p1 p2 new c) := by
  unfold sX
  cases new with
  | true => exact sw_ok (mm_ok (by simp)) (mm_ok (by simp)) (by simp) (by simp) (by decide) (by decide) (by decide) (okFs h1 h2) (by decide)
  | false => exact sw_ok (mt_ok (by simp) (by simp)) (mt_ok (by simp) (by simp)) (by simp) (by simp) (by decide) (by decide) (by decide) (okFs h1 h2) (by decide)
end
end Go.Proofs.Ytebhhfmekmpnkaa.diskSwaps

/-
  The walk of the law's Bytes.
-/
namespace Go.Proofs.Ytebhhfmekmpnkaa
open Go.RowKit
set_option linter.unusedVariables false
set_option linter.unusedSimpArgs false

def bch (n : Int) (i : Nat) : UInt8 := UInt8.ofNat ((n + 3 * (i : Int)) % 256).toNat
def bytesK (n : Int) (long k : Nat) : List UInt8 := (List.range long).map fun i => if i < k then bch n i else 0
def bytesL (n : Int) (long : Nat) : List UInt8 := bytesK n long long
theorem bytesK_len (n : Int) (long k : Nat) : (bytesK n long k).length = long := by simp [bytesK]
theorem bytesL_len (n : Int) (long : Nat) : (bytesL n long).length = long := bytesK_len n long long
theorem bch_val (n : Int) (i : Nat) : ((bch n i).toNat : Int) = (n + 3 * (i : Int)) % 256 := by
  unfold bch
  have h0 : 0 ≤ (n + 3 * (i : Int)) % 256 := by omega
  have h1 : (n + 3 * (i : Int)) % 256 < 256 := by omega
  simp
  omega
theorem bch_wrap (n : Int) (i : Nat) : IntKind.u8.wrap (IntKind.i64.wrap (n + 3 * (i : Int))) = ((bch n i).toNat : Int) := by
  rw [bch_val, IntKind.wrap_u8, IntKind.wrap_i64]
  omega
theorem bytesK_zero (n : Int) (long : Nat) : bytesK n long 0 = List.replicate long 0 := by
  apply List.ext_getElem
  · simp [bytesK]
  · intro i h1 h2; simp [bytesK]
theorem bytesK_set (n : Int) (long k : Nat) (hk : k < long) : (bytesK n long k).set k (bch n k) = bytesK n long (k + 1) := by
  apply List.ext_getElem
  · simp [bytesK]
  · intro i h1 h2
    rw [List.getElem_set]
    simp only [bytesK, List.getElem_map, List.getElem_range]
    by_cases hik : k = i
    · subst hik; simp
    · rw [if_neg hik]
      by_cases h3 : i < k
      · rw [if_pos h3, if_pos (by omega)]
      · rw [if_neg h3, if_neg (by omega)]
set_option maxRecDepth 100000 in
set_option maxHeartbeats 800000 in
theorem bytes_any (n : Int) (long : Nat) (w : World) (hl : long ≤ 1000) (hn : -9223372036854775808 ≤ n ∧ n ≤ 9223372036854775807) :
    Calls Try.prog 17 #[.int .i64 n, .int .i64 (long : Int)] w fun e w' => e = .returned (.string (tx (bytesL n long))) ∧ Up w w' := by
  have MK : ∀ W : World, (Instr.makeSlice 31 (.int .i64 (long : Int)) (.int .i64 (long : Int))).run Try.prog W = .ok (.slice (some ⟨W.heap.size, 0, none⟩) long long) (W.alloc (.cells (zb long) 5)) := fun W => make_b W .i64 .i64 (long : Int) (by omega) (by omega)
  have hup1 : Up w (w.alloc (.cells (zb long) 5)) := (Up.refl w).alloc _
  have hb1 : (w.alloc (.cells (zb long) 5)).heap[w.heap.size]? = some (.cells (bvs (bytesK n long 0)).toArray 5 (0, 0)) := by rw [bytesK_zero]; exact heap_alloc_new w _
  have HBC := Lib.hid (bch_wrap n)
  have HBS := Lib.hid (bytesK_set n long)
  go_enter Try.func17, Try.ntmps17
  go_wp2_with fail
  clear MK
  generalize w.alloc (.cells (zb long) 5) = w1 at *
  have hgw : w.heap.size ≤ w.heap.size := Nat.le_refl _
  generalize hg : w.heap.size = g at hb1 ⊢
  go_loopw [11] (fun iv wr => ∃ k : Nat, iv = .int .i64 (k : Int) ∧ k ≤ long ∧ wr.heap[g]? = some (.cells (bvs (bytesK n long k)).toArray 5 (0, 0)) ∧ Up w wr) (fun iv _ => long - (intOf iv).toNat)
  case atStart => exact ⟨0, rfl, by omega, hb1, hup1⟩
  case round =>
    obtain ⟨k, rfl, hk, hb, hup⟩ := hrel
    clear hb1 hup1
    by_cases hlt : k < long
    · have hlti : (k : Int) < (long : Int) := by omega
      have hc : wr.cell? ⟨g, k, none⟩ = some (bv ((bytesK n long k).getD k 0)) := by
        rw [blk_cell hb k]
        have h9 : k < (bytesK n long k).length := by rw [bytesK_len]; exact hlt
        simp [bvs, List.getD, h9]
      have hz := blk_free hb k
      have hset := setc_heap wr g k (bv (bch n k)) _ _ hb
      have hK : Rg.Keeps (fun x => x = g) wr (wr.setCell ⟨g, k, none⟩ (bv (bch n k))) := setc_keeps _ _ _ _ _ (Rg.Keeps.refl _ _)
      have hset2 : (wr.setCell ⟨g, k, none⟩ (bv (bch n k))).heap[g]? = some (.cells (bvs (bytesK n long (k + 1))).toArray 5 (0, 0)) := by
        rw [hset]
        congr 2
        rw [← HBS.out k hlt]
        apply Array.toList_inj.1
        simp [bvs, List.map_set]
      have hup2 : Up w (wr.setCell ⟨g, k, none⟩ (bv (bch n k))) := ⟨hK.os.trans hup.os, hK.tape.trans hup.tape, hK.output.trans hup.output, Nat.le_trans hup.size hK.size, fun y hy => (hK.block y (Nat.lt_of_lt_of_le hy hup.size) (by omega)).trans (hup.block y hy)⟩
      have H2 := Lib.hid hset2
      have HU := Lib.hid hup2
      have hv := HBC.out k
      have hbv : bv (bch n k) = .int .u8 ((bch n k).toNat : Int) := rfl
      rw [hbv] at H2 HU
      clear hset hset2 hup2 hK hb hbv
      have hv2 : wrap64 (n + 3 * (k : Int)) % 256 = ((bch n k).toNat : Int) := by
        have h9 := hv
        rw [IntKind.wrap_u8, IntKind.wrap_i64] at h9
        unfold wrap64
        exact h9
      have HV2 := Lib.hid hv2
      clear hv hv2
      go_wp2_with fail
      rw [HV2.out]
      go_roundw
      case rel => exact ⟨k + 1, by go_num, by omega, H2.out, HU.out⟩
      case measure => simp [intOf]; omega
    · have hlti : ¬ (k : Int) < (long : Int) := by omega
      have hkl : k = long := by omega
      subst hkl
      have hrd : Rd wr wr.heap.size 1 (some ⟨g, 0, none⟩) k (bvs (bytesL n k)) := by
        refine ⟨by simp [bvs, bytesL_len], fun _ => ⟨g, 0, rfl, (Array.getElem?_eq_some_iff.1 hb).1, fun j u hu => ?_⟩⟩
        rw [Nat.zero_add, blk_cell hb j, ← hu]
        simp [bytesL]
      have hcv : (convert 31 9 (.slice (some ⟨g, 0, none⟩) k k)).run Try.prog wr = .ok (.string (tx (bytesL n k))) wr := run_str k hrd
      clear hrd hb
      go_wp2_with fail
      go_ret
      exact ⟨rfl, hup⟩
end Go.Proofs.Ytebhhfmekmpnkaa

/-
  []byte(s): a new slice that holds a text's bytes.
-/
namespace Go.Proofs.Ytebhhfmekmpnkaa
open Go.RowKit
set_option linter.unusedVariables false
set_option linter.unusedSimpArgs false

theorem conv_b (w : World) (l : List UInt8) : ∃ c w', (convert 9 31 (.string (tx l))).run Try.prog w = .ok (.slice (some ⟨w.heap.size, 0, none⟩) l.length c) w' ∧ l.length ≤ c ∧
    Rd w' w'.heap.size 1 (some ⟨w.heap.size, 0, none⟩) l.length (bvs l) ∧ Up w w' ∧ (∀ j, j < l.length → w'.frozen? ⟨w.heap.size, j, none⟩ = false) ∧ w.heap.size < w'.heap.size := by
  have hrun := Lib.run_convert_string_bytes (P := Try.prog) w 9 31 5 (tx l) Try.underlying9 bytesT.ut Try.underlying5
  rw [tx_size] at hrun
  refine ⟨_, _, hrun, grownCap_ge w _ 0 _, ⟨by rw [bvs_length, Nat.mul_one], fun _ => ⟨w.heap.size, 0, rfl, by rw [Lib.bytesWorld_size]; omega, fun j u hu => ?_⟩⟩, ⟨rfl, rfl, rfl, by rw [Lib.bytesWorld_size]; omega, fun k hk => Lib.bytesWorld_at_old w _ _ k hk⟩, fun j hj => ?_, by rw [Lib.bytesWorld_size]; omega⟩
  · rw [Nat.zero_add]
    have hj := (List.getElem?_eq_some_iff.1 hu).1
    rw [bvs_length] at hj
    rw [Lib.bytesWorld_cell w _ _ j (by rw [tx_size]; exact hj), tx_list, ← hu]
    simp [bvs, bv, hj, List.getD]
  · have hge := grownCap_ge w l.length 0 5
    unfold World.frozen?
    rw [Lib.bytesWorld_at_new]
    have hs : j < (Lib.bytesCells w 5 (tx l)).size := by
      unfold Lib.bytesCells
      simp [tx_size]; omega
    simp
    omega
end Go.Proofs.Ytebhhfmekmpnkaa

/-
  Opening arguments: slices of integers as lists of bytes and numbers; bounds of integers.
-/
namespace Go.Proofs.Ytebhhfmekmpnkaa
open Go.ChangeShapes Go.WideShapes Go.ChangeAt Go.RowKit
set_option linter.unusedVariables false

theorem prog_own : ownKnob Try.prog.godebug = none := by kernel_rfl
theorem laidOut : laidOutB Try.prog = true := by kernel_rfl

theorem bd_i64 {x : Int} (h : (Lit.int .i64 x).wf = true) : -9223372036854775808 ≤ x ∧ x ≤ 9223372036854775807 := by
  simpa [Lit.wf, IntKind.min, IntKind.max, IntKind.signed, IntKind.bits] using h
theorem bd_u64 {x : Int} (h : (Lit.int .u64 x).wf = true) : 0 ≤ x ∧ x ≤ 18446744073709551615 := by
  simpa [Lit.wf, IntKind.min, IntKind.max, IntKind.signed, IntKind.bits] using h
theorem bd_u8 {x : Int} (h : (Lit.int .u8 x).wf = true) : 0 ≤ x ∧ x ≤ 255 := by
  simpa [Lit.wf, IntKind.min, IntKind.max, IntKind.signed, IntKind.bits] using h

theorem rd_ints {W : World} {k : IntKind} {α : Type} (val : α → Value) (ofI : Int → α) (hof : ∀ n, (Lit.int k n).wf = true → val (ofI n) = .int k n) {a : Addr} {len cap : Nat} {zs : List Int}
    (hl : len ≤ cap) (hz : zs.length = cap) (hcell : ∀ i, i < zs.length → W.cell? (a.add i) = some (.int k (zs.getD i 0))) (hwz : ∀ n ∈ zs, (Lit.int k n).wf = true) :
    Rd W W.heap.size 1 (some a) len (((zs.take len).map ofI).map val) := by
  have hm : ((zs.take len).map ofI).map val = (zs.take len).map (Value.int k) := by
    rw [List.map_map]
    exact List.map_congr_left fun n hn => hof n (hwz n (List.mem_of_mem_take hn))
  rw [hm]
  refine ⟨by simp; omega, fun hn => ?_⟩
  obtain ⟨b, o, spot⟩ := a
  have hspot : spot = none := by simpa [Addr.add] using World.cell?_spot (hcell 0 (by omega))
  subst hspot
  refine ⟨b, o, rfl, ?_, fun j u hu => ?_⟩
  · have h0 := hcell 0 (by omega)
    have := World.block_lt_of_cell? W _ h0
    simpa [Addr.add] using this
  · have hj : j < len ∧ j < zs.length := by
      have := (List.getElem?_eq_some_iff.1 hu).1
      simp at this; omega
    have e : (⟨b, o, none⟩ : Addr).add j = ⟨b, o + j, none⟩ := by unfold Addr.add; split <;> simp_all
    rw [← e, hcell j hj.2]
    simp [hj.1, hj.2] at hu
    rw [← hu]
    simp [List.getD, hj.2]

/-- a slice of bytes that came in -/
def IsB (w : World) (A : Option Addr) (n c : Nat) (l : List UInt8) : Prop := Rd w w.heap.size 1 A n (bvs l) ∧ n ≤ c ∧ c ≤ 9223372036854775807

section
variable {H : Type} {enc : TypeId × Value → H} {W : World} {sp : Nat → Bool} {a : Option Addr} {len cap : Nat} {d : DataW H} {p : List MemPlace}
theorem is_b (h : DataW.Trod enc Try.prog W 0 (fun _ => true) true 31 (.slice a len cap) d p) : ∃ l, IsB W a len cap l := by
  obtain ⟨fuel, hf⟩ := h
  rcases open_ints Try.underlying31 Try.underlying5 (by kernel_rfl) hf with ⟨hcs, _⟩ | ⟨x, l, c, zs, hcs, _, hl, hm, hz, _, hcell, hwz⟩
  · simp [Value.cells] at hcs
    obtain ⟨rfl, rfl, rfl⟩ := hcs
    exact ⟨[], Rd.empty, by omega, by omega⟩
  · simp [Value.cells] at hcs
    obtain ⟨rfl, rfl, rfl⟩ := hcs
    refine ⟨_, rd_ints bv (fun n => UInt8.ofNat n.toNat) (fun n hn => ?_) hl (by simpa using hz) hcell hwz, hl, by simpa only [maxLen] using hm⟩
    have := bd_u8 hn
    rw [bv_ofNat]; congr 1; omega
end
end Go.Proofs.Ytebhhfmekmpnkaa

/-
  Opening arguments: a slice out of its elements.
-/
namespace Go.Proofs.Ytebhhfmekmpnkaa
open Go.ChangeShapes Go.WideShapes Go.ChangeAt Go.RowKit Go.Deep
set_option linter.unusedVariables false

theorem flat_len {α : Type} (f : α → List Value) {sz : Nat} (hf : ∀ x, (f x).length = sz) (l : List α) : (l.flatMap f).length = l.length * sz := by
  induction l with
  | nil => simp
  | cons x l ih => rw [List.flatMap_cons, List.length_append, hf, ih, List.length_cons, Nat.add_mul]; omega
theorem flat_at {α : Type} (f : α → List Value) {sz : Nat} (hf : ∀ x, (f x).length = sz) (l : List α) {k : Nat} (hk : k < l.length) {j : Nat} (hj : j < sz) : (l.flatMap f)[k * sz + j]? = (f l[k])[j]? := by
  induction l generalizing k with
  | nil => simp at hk
  | cons x l ih =>
    cases k with
    | zero =>
      simp only [List.flatMap_cons, Nat.zero_mul, Nat.zero_add, List.getElem_cons_zero]
      rw [List.getElem?_append_left (by rw [hf]; exact hj)]
    | succ k =>
      have hk' : k < l.length := by simpa using hk
      have := ih hk'
      simp only [List.flatMap_cons, List.getElem_cons_succ]
      rw [List.getElem?_append_right (by rw [hf, Nat.add_mul]; omega), ← this]
      congr 1; rw [hf, Nat.add_mul]; omega

theorem add_at (b o k : Nat) : (⟨b, o, none⟩ : Addr).add k = ⟨b, o + k, none⟩ := by unfold Addr.add; split <;> simp_all
theorem rd_elems {α : Type} [Inhabited α] {W : World} (f : α → List Value) {sz : Nat} (hf : ∀ x, (f x).length = sz) (hsz : 0 < sz) {a : Addr} {len base : Nat}
    (h : ∀ i, i < len → ∃ cs', W.cells? base (a.add (i * sz)) sz = some cs' ∧ ∃ x, cs' = f x) : ∃ l : List α, l.length = len ∧ Rd W W.heap.size sz (some a) len (l.flatMap f) := by
  obtain ⟨g, hg⟩ := choose_lt (p := fun i x => W.cells? base (a.add (i * sz)) sz = some (f x)) (n := len) (fun i hi => by
    obtain ⟨cs', h1, x, rfl⟩ := h i hi
    exact ⟨x, h1⟩)
  refine ⟨(List.range len).map g, by simp, by rw [flat_len f hf]; simp, fun hn => ?_⟩
  obtain ⟨b, o, spot⟩ := a
  have h0 := (World.cells?_some (hg 0 hn)).2.2 0 hsz
  have hx0 : (f (g 0))[0]? = some ((f (g 0))[0]'(by rw [hf]; exact hsz)) := List.getElem?_eq_getElem _
  rw [hx0] at h0
  have add0 : ∀ a : Addr, a.add 0 = a := fun a => by simp [Addr.add]
  rw [Nat.zero_mul, add0, add0] at h0
  have hspot : spot = none := World.cell?_spot h0
  subst hspot
  have hb : b < W.heap.size := World.block_lt_of_cell? W _ h0
  refine ⟨b, o, rfl, hb, fun j u hu => ?_⟩
  have hj : j < len * sz := by
    have := (List.getElem?_eq_some_iff.1 hu).1
    rw [flat_len f hf] at this; simpa using this
  have hi : j / sz < len := by rw [Nat.div_lt_iff_lt_mul hsz]; exact hj
  have hr : j % sz < sz := Nat.mod_lt _ hsz
  have hjj : j = j / sz * sz + j % sz := by rw [Nat.mul_comm]; exact (Nat.div_add_mod j sz).symm
  have hc := (World.cells?_some (hg _ hi)).2.2 _ hr
  have e : ((⟨b, o, none⟩ : Addr).add (j / sz * sz)).add (j % sz) = ⟨b, o + j, none⟩ := by
    rw [add_at, add_at, Nat.add_assoc, ← hjj]
  rw [e] at hc
  have hfl := flat_at f hf ((List.range len).map g) (k := j / sz) (by simpa using hi) hr
  rw [← hjj] at hfl
  rw [hc, ← hu, hfl]
  simp

end Go.Proofs.Ytebhhfmekmpnkaa

/-
  Opening arguments: slices of whole numbers.
-/
namespace Go.Proofs.Ytebhhfmekmpnkaa
open Go.ChangeShapes Go.WideShapes Go.ChangeAt Go.RowKit Go.Deep
set_option linter.unusedVariables false

theorem i64_ofZ {n : Int} (h : (Lit.int .i64 n).wf = true) : n = (Int64.ofInt n).toInt := by
  have := bd_i64 h
  rw [Int64.toInt_ofInt_of_le (by simpa using this.1) (by have := this.2; simp; omega)]
section
variable {H : Type} {enc : TypeId × Value → H} {W : World} {sp : Nat → Bool} {a : Option Addr} {len cap : Nat} {d : DataW H} {p : List MemPlace}
/-- a slice of whole numbers that came in -/
def zvs (l : List Int64) : List Value := l.map fun z => Value.int .i64 z.toInt
def IsZ (w : World) (A : Option Addr) (n c : Nat) (l : List Int64) : Prop := Rd w w.heap.size 1 A n (zvs l) ∧ n ≤ c ∧ c ≤ 9223372036854775807
theorem is_z (h : DataW.Trod enc Try.prog W 0 (fun _ => true) true 22 (.slice a len cap) d p) : ∃ l, IsZ W a len cap l := by
  obtain ⟨fuel, hf⟩ := h
  rcases open_ints Try.underlying22 Try.underlying3 (by kernel_rfl) hf with ⟨hcs, _⟩ | ⟨x, l, c, zs, hcs, _, hl, hm, hz, _, hcell, hwz⟩
  · simp [Value.cells] at hcs
    obtain ⟨rfl, rfl, rfl⟩ := hcs
    exact ⟨[], Rd.empty, by omega, by omega⟩
  · simp [Value.cells] at hcs
    obtain ⟨rfl, rfl, rfl⟩ := hcs
    refine ⟨_, rd_ints (fun z : Int64 => Value.int .i64 z.toInt) (fun n => Int64.ofInt n) (fun n hn => ?_) hl (by simpa using hz) hcell hwz, hl, by simpa only [maxLen] using hm⟩
    exact congrArg _ (i64_ofZ hn).symm
theorem Rd.zlen {w : World} {B n : Nat} {A : Option Addr} {q : List Int64} (h : Rd w B 1 A n (zvs q)) : n = q.length := by have := h.1; simp [zvs] at this; omega
theorem Rd.znum {w : World} {B n : Nat} {A : Option Addr} {q : List Int64} (h : Rd w B 1 A n (zvs q)) {k : Nat} (hk : k < n) :
    ∃ b o, A = some ⟨b, o, none⟩ ∧ b < B ∧ w.cell? ⟨b, o + k, none⟩ = some (.int .i64 (q.getD k 0).toInt) := by
  obtain ⟨b, o, e, hb, hc⟩ := h.2 (by omega)
  have hl : k < q.length := by have := h.zlen; omega
  exact ⟨b, o, e, hb, hc k _ (by simp [zvs, hl, List.getD])⟩
end
end Go.Proofs.Ytebhhfmekmpnkaa

/-
  Plain: numbers as bytes: groups of seven bits (numB), eight bytes (eightB).
-/
namespace Go.Proofs.Ytebhhfmekmpnkaa
open Go.RowKit
set_option linter.unusedVariables false

/-- a number in groups of seven bits, the lowest first -/
def numB (n : Nat) : List UInt8 := if n < 128 then [UInt8.ofNat n] else UInt8.ofNat (n % 128 + 128) :: numB (n / 128)
termination_by n
decreasing_by omega

theorem numB_lo {n : Nat} (h : n < 128) : numB n = [UInt8.ofNat n] := by rw [numB, if_pos h]
theorem numB_hi {n : Nat} (h : ¬ n < 128) : numB n = UInt8.ofNat (n % 128 + 128) :: numB (n / 128) := by rw [numB, if_neg h]
theorem numB_pos (n : Nat) : 1 ≤ (numB n).length := by
  rw [numB]; split <;> simp
theorem numB_len (k : Nat) : ∀ n, n < 128 ^ (k + 1) → (numB n).length ≤ k + 1 := by
  induction k with
  | zero => intro n h; rw [numB_lo (by simpa using h)]; simp
  | succ k ih =>
    intro n h
    by_cases hn : n < 128
    · rw [numB_lo hn]; simp
    · rw [numB_hi hn]
      have := ih (n / 128) (by rw [Nat.div_lt_iff_lt_mul (by decide)]; rw [Nat.pow_succ] at h; exact h)
      simp only [List.length_cons]; omega
theorem numB_ten {n : Nat} (h : n < 18446744073709551616) : (numB n).length ≤ 10 := numB_len 9 n (Nat.lt_of_lt_of_le h (by decide))

/-- what Take finds in what is left, i bytes behind the beginning, acc gathered: the number, its bytes, the error -/
def takeGo : List UInt8 → Nat → Nat → Nat × Nat × Nat
  | [], _, _ => (0, 0, 4)
  | c :: r, i, acc =>
    if (i = 9 ∧ 1 < c.toNat) ∨ (0 < i ∧ c.toNat = 0) then (0, 0, 3)
    else if c.toNat < 128 then (acc + c.toNat % 128 * 128 ^ i, i + 1, 0)
    else takeGo r (i + 1) (acc + c.toNat % 128 * 128 ^ i)
def takeL (l : List UInt8) : Nat × Nat × Nat := takeGo l 0 0

theorem pow_le9 {i : Nat} (hi : i ≤ 9) : 128 ^ i ≤ 9223372036854775808 := by
  have : (128 : Nat) ^ i ≤ 128 ^ 9 := Nat.pow_le_pow_right (by decide) hi
  simpa using this
theorem take_step {acc i ch : Nat} (ha : acc < 128 ^ i) : acc + ch % 128 * 128 ^ i < 128 ^ (i + 1) := by
  have h1 : ch % 128 * 128 ^ i ≤ 127 * 128 ^ i := Nat.mul_le_mul_right _ (by omega)
  rw [Nat.pow_succ]; omega
theorem take_fit {acc i ch : Nat} (hi : i ≤ 9) (ha : acc < 128 ^ i) (h9 : i = 9 → ch ≤ 1) : acc + ch % 128 * 128 ^ i < 18446744073709551616 := by
  by_cases h : i = 9
  · subst h
    have h1 : ch % 128 * 128 ^ 9 ≤ 1 * 128 ^ 9 := Nat.mul_le_mul_right _ (by have := h9 rfl; omega)
    have e : (128 : Nat) ^ 9 = 9223372036854775808 := by decide
    rw [e] at *; omega
  · have := take_step (ch := ch) ha
    have h2 := pow_le9 (i := i + 1) (by omega)
    omega
/-- the number that a byte's turn of Take's loop comes to, as the walk spells it -/
theorem take_val {acc i : Nat} {ch : UInt8} (hi : i ≤ 9) (ha : acc < 128 ^ i) (h9 : i = 9 → ch.toNat ≤ 1) :
    bits .or .u64 (acc : Int) (IntKind.u64.wrap (IntKind.u64.wrap (bits .and .u8 (ch.toNat : Int) 127) * 2 ^ (7 * i))) = ((acc + ch.toNat % 128 * 128 ^ i : Nat) : Int) := by
  have hf := take_fit hi ha h9
  have hc : ch.toNat < 256 := ch.toNat_lt
  have e1 : bits .and .u8 (ch.toNat : Int) 127 = ((ch.toNat % 128 : Nat) : Int) := by
    rw [show (127 : Int) = ((127 : Nat) : Int) from rfl, u8_and_nat _ _ hc (by decide), nat_mask7]
  have e2 : (2 : Int) ^ (7 * i) = ((128 ^ i : Nat) : Int) := by rw [Int.natCast_pow, show ((128 : Nat) : Int) = 2 ^ 7 from rfl, ← Int.pow_mul]
  have e3 : IntKind.u64.wrap ((ch.toNat % 128 : Nat) : Int) = ((ch.toNat % 128 : Nat) : Int) := by
    rw [IntKind.wrap_u64]; omega
  rw [e1, e3, e2, ← Int.natCast_mul]
  have e4 : IntKind.u64.wrap ((ch.toNat % 128 * 128 ^ i : Nat) : Int) = ((ch.toNat % 128 * 128 ^ i : Nat) : Int) := by
    rw [IntKind.wrap_u64]; omega
  rw [e4, u64_or_nat _ _ (by omega) (by omega), Nat.or_comm, nat_join (7 * i), Nat.add_comm]
  · rw [Nat.pow_mul]; exact Nat.mul_mod_left _ _
  · rw [Nat.pow_mul]; exact ha

theorem take_val9 {acc : Nat} {ch : UInt8} (ha : acc < 128 ^ 9) (h9 : ch.toNat ≤ 1) :
    bits .or .u64 (acc : Int) (IntKind.u64.wrap (IntKind.u64.wrap (bits .and .u8 (ch.toNat : Int) 127) * 9223372036854775808)) = ((acc + ch.toNat % 128 * 128 ^ 9 : Nat) : Int) := by
  rw [← take_val (i := 9) (by omega) ha (fun _ => h9), show (2 : Int) ^ (7 * 9) = 9223372036854775808 by decide]
theorem rtake_val {acc i : Nat} {ch : UInt8} (hi : i ≤ 9) (ha : acc < 128 ^ i) (h9 : i = 9 → ch.toNat ≤ 1) :
    bits .or .u64 (acc : Int) (IntKind.u64.wrap (bits .and .u64 (ch.toNat : Int) 127 * 2 ^ (7 * i))) = ((acc + ch.toNat % 128 * 128 ^ i : Nat) : Int) := by
  rw [← take_val hi ha h9]
  have hc : ch.toNat < 256 := ch.toNat_lt
  have e1 : bits .and .u8 (ch.toNat : Int) 127 = ((ch.toNat % 128 : Nat) : Int) := by
    rw [show (127 : Int) = ((127 : Nat) : Int) from rfl, u8_and_nat _ _ hc (by decide), nat_mask7]
  have e2 : bits .and .u64 (ch.toNat : Int) 127 = ((ch.toNat % 128 : Nat) : Int) := by
    rw [show (127 : Int) = ((127 : Nat) : Int) from rfl, u64_and_nat _ _ (by omega) (by decide), nat_mask7]
  have e3 : IntKind.u64.wrap ((ch.toNat % 128 : Nat) : Int) = ((ch.toNat % 128 : Nat) : Int) := by
    rw [IntKind.wrap_u64]; omega
  rw [e1, e2, e3]
theorem rtake_val9 {acc : Nat} {ch : UInt8} (ha : acc < 128 ^ 9) (h9 : ch.toNat ≤ 1) :
    bits .or .u64 (acc : Int) (IntKind.u64.wrap (bits .and .u64 (ch.toNat : Int) 127 * 9223372036854775808)) = ((acc + ch.toNat % 128 * 128 ^ 9 : Nat) : Int) := by
  rw [← rtake_val (i := 9) (by omega) ha (fun _ => h9), show (2 : Int) ^ (7 * 9) = 9223372036854775808 by decide]
theorem byte0 (ch : UInt8) : (((ch.toNat : Int) == 0) = true → ch.toNat = 0) ∧ (((ch.toNat : Int) == 0) = false → 0 < ch.toNat) := by
  constructor
  · intro h; have := beq_iff_eq.1 h; omega
  · intro h; have := beq_eq_false_iff_ne.1 h; omega

theorem takeGo_form {c : UInt8} {r : List UInt8} {i acc : Nat} (h : (i = 9 ∧ 1 < c.toNat) ∨ (0 < i ∧ c.toNat = 0)) : takeGo (c :: r) i acc = (0, 0, 3) := by rw [takeGo, if_pos h]
theorem takeGo_end {c : UInt8} {r : List UInt8} {i acc : Nat} (h : ¬ ((i = 9 ∧ 1 < c.toNat) ∨ (0 < i ∧ c.toNat = 0))) (h2 : c.toNat < 128) : takeGo (c :: r) i acc = (acc + c.toNat % 128 * 128 ^ i, i + 1, 0) := by rw [takeGo, if_neg h, if_pos h2]
theorem takeGo_more {c : UInt8} {r : List UInt8} {i acc : Nat} (h : ¬ ((i = 9 ∧ 1 < c.toNat) ∨ (0 < i ∧ c.toNat = 0))) (h2 : ¬ c.toNat < 128) : takeGo (c :: r) i acc = takeGo r (i + 1) (acc + c.toNat % 128 * 128 ^ i) := by rw [takeGo, if_neg h, if_neg h2]

/-! ### signs -/
def signN (n : Int) : Nat := if n < 0 then (-(n + 1)).toNat * 2 + 1 else n.toNat * 2
def unsignZ (n : Nat) : Int := if n % 2 = 0 then ((n / 2 : Nat) : Int) else -((n / 2 : Nat) : Int) - 1
theorem xor_ones (a : Nat) (ha : a < 18446744073709551616) : bits .xor .u64 (a : Int) 18446744073709551615 = ((18446744073709551615 - a : Nat) : Int) := by
  rw [show (18446744073709551615 : Int) = ((18446744073709551615 : Nat) : Int) from rfl, u64_xor_nat _ _ ha (by decide)]
  congr 1
  have h := congrArg BitVec.toNat (BitVec.xor_allOnes (x := BitVec.ofNat 64 a))
  rw [BitVec.toNat_xor, BitVec.toNat_allOnes, BitVec.toNat_not, BitVec.toNat_ofNat, Nat.mod_eq_of_lt (by simpa using ha)] at h
  simpa using h
theorem sign_val (n : Int) (h1 : -9223372036854775808 ≤ n) (h2 : n ≤ 9223372036854775807) :
    bits .xor .u64 (IntKind.u64.wrap (IntKind.u64.wrap n * 2)) (IntKind.u64.wrap (n / 9223372036854775808)) = (signN n : Int) := by
  unfold signN
  by_cases hn : n < 0
  · rw [if_pos hn]
    have e1 : IntKind.u64.wrap (n / 9223372036854775808) = 18446744073709551615 := by rw [IntKind.wrap_u64]; omega
    obtain ⟨a, ha⟩ : ∃ a : Nat, IntKind.u64.wrap (IntKind.u64.wrap n * 2) = (a : Int) := ⟨(IntKind.u64.wrap (IntKind.u64.wrap n * 2)).toNat, by rw [IntKind.wrap_u64]; omega⟩
    have hb : a < 18446744073709551616 := by rw [IntKind.wrap_u64] at ha; omega
    rw [e1, ha, xor_ones a hb]
    rw [IntKind.wrap_u64, IntKind.wrap_u64] at ha
    omega
  · rw [if_neg hn]
    have e1 : IntKind.u64.wrap (n / 9223372036854775808) = ((0 : Nat) : Int) := by rw [IntKind.wrap_u64]; omega
    have e2 : IntKind.u64.wrap (IntKind.u64.wrap n * 2) = ((n.toNat * 2 : Nat) : Int) := by rw [IntKind.wrap_u64, IntKind.wrap_u64]; omega
    rw [e1, e2, u64_xor_nat _ _ (by omega) (by omega), Nat.xor_zero]
theorem xor_i64_ones (a : Nat) (ha : a < 9223372036854775808) : bits .xor .i64 (a : Int) (-1) = -(a : Int) - 1 := by
  have h := congrArg BitVec.toNat (BitVec.xor_allOnes (x := BitVec.ofNat 64 a))
  rw [BitVec.toNat_xor, BitVec.toNat_allOnes, BitVec.toNat_not, BitVec.toNat_ofNat, Nat.mod_eq_of_lt (by omega)] at h
  show IntKind.i64.wrap ((BitVec.ofInt 64 (a : Int) ^^^ BitVec.ofInt 64 (-1)).toNat : Int) = _
  rw [BitVec.toNat_xor, ofInt_u64 a (by omega)]
  have e1 : (BitVec.ofInt 64 (-1)).toNat = 2 ^ 64 - 1 := by decide
  rw [e1, h, IntKind.wrap_i64]
  omega
theorem xor_i64_zero (a : Nat) (ha : a < 9223372036854775808) : bits .xor .i64 (a : Int) 0 = (a : Int) := by
  show IntKind.i64.wrap ((BitVec.ofInt 64 (a : Int) ^^^ BitVec.ofInt 64 0).toNat : Int) = _
  rw [BitVec.toNat_xor, ofInt_u64 a (by omega)]
  have e1 : (BitVec.ofInt 64 0).toNat = 0 := by decide
  rw [e1, Nat.xor_zero, IntKind.wrap_i64]
  omega
theorem unsign_val (n : Nat) (h2 : n < 18446744073709551616) :
    bits .xor .i64 ((n : Int) / 2) (wrap64 (-wrap64 (bits .and .u64 (n : Int) 1))) = unsignZ n := by
  unfold unsignZ
  have e0 : bits .and .u64 (n : Int) 1 = ((n % 2 : Nat) : Int) := by
    rw [show (1 : Int) = ((1 : Nat) : Int) from rfl, u64_and_nat _ _ h2 (by decide), nat_mask1]
  rw [e0, show ((n : Int) / 2) = ((n / 2 : Nat) : Int) by omega]
  by_cases h : n % 2 = 0
  · rw [if_pos h, h]
    rw [show wrap64 (-wrap64 ((0 : Nat) : Int)) = 0 by decide +kernel]
    exact xor_i64_zero (n / 2) (by omega)
  · rw [if_neg h, show n % 2 = 1 by omega]
    rw [show wrap64 (-wrap64 ((1 : Nat) : Int)) = -1 by decide +kernel]
    exact xor_i64_ones (n / 2) (by omega)
theorem signN_lt (n : Int) (h1 : -9223372036854775808 ≤ n) (h2 : n ≤ 9223372036854775807) : signN n < 18446744073709551616 := by unfold signN; split <;> omega
theorem unsign_sign (n : Int) : unsignZ (signN n) = n := by unfold unsignZ signN; split <;> split <;> omega
theorem sign_unsign (n : Nat) : signN (unsignZ n) = n := by unfold unsignZ signN; split <;> split <;> omega
theorem unsignZ_bd (n : Nat) (h : n < 18446744073709551616) : -9223372036854775808 ≤ unsignZ n ∧ unsignZ n ≤ 9223372036854775807 := by unfold unsignZ; split <;> omega

/-! ### eight bytes -/
def eightB (n : Nat) : List UInt8 := (List.range 8).map fun i => UInt8.ofNat (n / 2 ^ (56 - 8 * i))
theorem eightB_len (n : Nat) : (eightB n).length = 8 := by simp [eightB]
theorem eightB_step (n k : Nat) (hk : k < 8) : (eightB n).take k ++ [UInt8.ofNat (n / 2 ^ (56 - 8 * k))] = (eightB n).take (k + 1) := by
  rw [List.take_succ_eq_append_getElem (by simpa [eightB] using hk)]
  simp [eightB]
theorem eight_byte (x k : Nat) : Value.int .u8 ((x : Int) / 2 ^ (56 - 8 * k) % 256) = bv (UInt8.ofNat (x / 2 ^ (56 - 8 * k))) := by
  rw [bv_ofNat]; simp
def foldN (l : List UInt8) : Nat := l.foldl (fun a c => a * 256 + c.toNat) 0
theorem foldN_snoc (l : List UInt8) (c : UInt8) : foldN (l ++ [c]) = foldN l * 256 + c.toNat := by simp [foldN]
theorem foldN_lt (l : List UInt8) : foldN l < 256 ^ l.length := by
  suffices h : ∀ r : List UInt8, foldN r.reverse < 256 ^ r.reverse.length by simpa using h l.reverse
  intro r
  induction r with
  | nil => simp [foldN]
  | cons c r ih =>
    rw [List.reverse_cons, foldN_snoc, List.length_append, List.length_singleton, Nat.pow_succ]
    have := c.toNat_lt
    omega
theorem fold_val {a : Nat} {ch : UInt8} {k : Nat} (hk : k ≤ 7) (ha : a < 256 ^ k) :
    bits .or .u64 (IntKind.u64.wrap ((a : Int) * 256)) (IntKind.u64.wrap (ch.toNat : Int)) = ((a * 256 + ch.toNat : Nat) : Int) := by
  have h7 : (256 : Nat) ^ k ≤ 256 ^ 7 := Nat.pow_le_pow_right (by decide) hk
  have e7 : (256 : Nat) ^ 7 = 72057594037927936 := by decide
  have hc := ch.toNat_lt
  have e1 : IntKind.u64.wrap ((a : Int) * 256) = ((a * 256 : Nat) : Int) := by rw [IntKind.wrap_u64]; omega
  have e2 : IntKind.u64.wrap (ch.toNat : Int) = ((ch.toNat : Nat) : Int) := by rw [IntKind.wrap_u64]; omega
  rw [e1, e2, u64_or_nat _ _ (by omega) (by omega), nat_join 8 _ _ (by omega) (by omega)]
def uneightL (l : List UInt8) : Nat × Nat := if l.length < 8 then (0, 4) else (foldN (l.take 8), 0)

/-! ### lists -/
def numsB (q : List UInt64) : List UInt8 := q.flatMap fun x => numB x.toNat
def listB (q : List UInt64) : List UInt8 := numB q.length ++ numsB q
theorem numsB_snoc (q : List UInt64) (x : UInt64) : numsB (q ++ [x]) = numsB q ++ numB x.toNat := by simp [numsB]
theorem numsB_len (q : List UInt64) : (numsB q).length ≤ 10 * q.length := by
  induction q with
  | nil => simp [numsB]
  | cons x q ih => have := numB_ten x.toNat_lt; simp only [numsB, List.flatMap_cons, List.length_append, List.length_cons] at *; omega

theorem neq0 (e : Nat) : (((e : Int) != 0) = true → e ≠ 0) ∧ (((e : Int) != 0) = false → e = 0) := by
  constructor
  · intro h he; subst he; simp at h
  · intro h
    rcases Nat.eq_zero_or_pos e with h0 | h0
    · exact h0
    · exfalso
      have : ((e : Int) != 0) = true := by rw [bne_iff_ne]; omega
      rw [this] at h; cases h

/-! ### what Take answers -/
theorem takeGo_ok (l : List UInt8) : ∀ (i acc : Nat), i ≤ 9 → acc < 128 ^ i → (takeGo l i acc).2.2 = 0 →
    (takeGo l i acc).1 < 18446744073709551616 ∧ i + 1 ≤ (takeGo l i acc).2.1 ∧ (takeGo l i acc).2.1 ≤ i + l.length ∧ (takeGo l i acc).2.1 ≤ 10 := by
  induction l with
  | nil => intro i acc _ _ h; simp [takeGo] at h
  | cons c r ih =>
    intro i acc hi ha h
    by_cases hf : (i = 9 ∧ 1 < c.toNat) ∨ (0 < i ∧ c.toNat = 0)
    · rw [takeGo_form hf] at h; simp at h
    · by_cases h2 : c.toNat < 128
      · rw [takeGo_end hf h2]
        exact ⟨take_fit hi ha (by omega), by simp, by simp only [List.length_cons]; omega, by simp only; omega⟩
      · rw [takeGo_more hf h2] at h ⊢
        have hi9 : i ≤ 8 := by omega
        obtain ⟨a, b, c', d⟩ := ih (i + 1) _ (by omega) (take_step ha) h
        exact ⟨a, by omega, by simp only [List.length_cons]; omega, d⟩
theorem takeL_ok {l : List UInt8} (h : (takeL l).2.2 = 0) : (takeL l).1 < 18446744073709551616 ∧ 1 ≤ (takeL l).2.1 ∧ (takeL l).2.1 ≤ l.length ∧ (takeL l).2.1 ≤ 10 := by
  unfold takeL at h ⊢
  obtain ⟨a, b, c, d⟩ := takeGo_ok l 0 0 (by omega) (by simp) h
  exact ⟨a, by omega, by simpa using c, d⟩
theorem takeGo_bad (l : List UInt8) : ∀ (i acc : Nat), (takeGo l i acc).2.2 ≠ 0 → (takeGo l i acc).1 = 0 ∧ (takeGo l i acc).2.1 = 0 ∧ ((takeGo l i acc).2.2 = 3 ∨ (takeGo l i acc).2.2 = 4) := by
  induction l with
  | nil => intro i acc _; simp [takeGo]
  | cons c r ih =>
    intro i acc h
    by_cases hf : (i = 9 ∧ 1 < c.toNat) ∨ (0 < i ∧ c.toNat = 0)
    · rw [takeGo_form hf]; simp
    · by_cases h2 : c.toNat < 128
      · rw [takeGo_end hf h2] at h; simp at h
      · rw [takeGo_more hf h2] at h ⊢; exact ih _ _ h
theorem takeL_bad {l : List UInt8} (h : (takeL l).2.2 ≠ 0) : (takeL l).1 = 0 ∧ (takeL l).2.1 = 0 ∧ ((takeL l).2.2 = 3 ∨ (takeL l).2.2 = 4) := takeGo_bad l 0 0 h

/-- what is left of Unlist: k numbers are still to come -/
def unGo : Nat → List UInt8 → Nat → List UInt64 → List UInt64 × Nat × Nat
  | 0, _, at_, acc => (acc, at_, 0)
  | k + 1, l, at_, acc =>
    if (takeL (l.drop at_)).2.2 = 0 then unGo k l (at_ + (takeL (l.drop at_)).2.1) (acc ++ [UInt64.ofNat (takeL (l.drop at_)).1])
    else ([], 0, (takeL (l.drop at_)).2.2)
def unlistL (l : List UInt8) (most : Int) : List UInt64 × Nat × Nat :=
  if (takeL l).2.2 ≠ 0 then ([], 0, (takeL l).2.2)
  else if (if most < 0 then 0 else most) < ((takeL l).1 : Int) then ([], 0, 2)
  else unGo (takeL l).1 l (takeL l).2.1 []

end Go.Proofs.Ytebhhfmekmpnkaa

/-
  Plain laws of numbers as bytes.
-/
namespace Go.Proofs.Ytebhhfmekmpnkaa
open Go.RowKit
set_option linter.unusedVariables false

theorem pow_split (x i : Nat) : x % 128 * 128 ^ i + x / 128 * 128 ^ (i + 1) = x * 128 ^ i := by
  have h := Nat.mod_add_div x 128
  calc x % 128 * 128 ^ i + x / 128 * 128 ^ (i + 1) = (x % 128 + 128 * (x / 128)) * 128 ^ i := by rw [Nat.pow_succ, Nat.add_mul]; congr 1; rw [Nat.mul_comm 128, Nat.mul_assoc, Nat.mul_comm 128]
    _ = x * 128 ^ i := by rw [h]
theorem takeGo_numB (r : List UInt8) : ∀ (n x i acc : Nat), x ≤ n → i ≤ 9 → x < 2 ^ (64 - 7 * i) → (0 < i → 0 < x) → takeGo (numB x ++ r) i acc = (acc + x * 128 ^ i, i + (numB x).length, 0) := by
  intro n
  induction n with
  | zero =>
    intro x i acc hx hi h1 h2
    have h0 : x = 0 := by omega
    subst h0
    have : i = 0 := by rcases Nat.eq_zero_or_pos i with h | h; exact h; exact absurd (h2 h) (by omega)
    subst this
    rw [numB_lo (by omega)]
    exact takeGo_end (by simp) (by decide)
  | succ n ih =>
    intro x i acc hx hi h1 h2
    by_cases hlt : x < 128
    · rw [numB_lo hlt]
      have e : (UInt8.ofNat x).toNat = x := by simp; omega
      rw [List.cons_append, List.nil_append, takeGo_end, e]
      · rw [Nat.mod_eq_of_lt hlt]; rfl
      · rw [e]
        rintro (⟨h9, hx1⟩ | ⟨h0, hx0⟩)
        · subst h9; simp at h1; omega
        · have := h2 h0; omega
      · rw [e]; exact hlt
    · rw [numB_hi hlt]
      have e : (UInt8.ofNat (x % 128 + 128)).toNat = x % 128 + 128 := by simp; omega
      have h8 : i ≤ 8 := by
        rcases Nat.lt_or_ge i 9 with h | h
        · omega
        · have : i = 9 := by omega
          subst this; simp at h1; omega
      rw [List.cons_append, takeGo_more, e, ih (x / 128) (i + 1) _ (by omega) (by omega) ?_ (fun _ => by omega)]
      · rw [show (x % 128 + 128) % 128 = x % 128 by omega, Nat.add_assoc, pow_split, List.length_cons]
        simp only [Prod.mk.injEq, and_true, true_and]; omega
      · rw [Nat.div_lt_iff_lt_mul (by decide), show (128 : Nat) = 2 ^ 7 from rfl, ← Nat.pow_add]
        rw [show 64 - 7 * (i + 1) + 7 = 64 - 7 * i by omega]; exact h1
      · rw [e]; omega
      · rw [e]; omega
theorem takeL_numB (x : Nat) (r : List UInt8) (hx : x < 18446744073709551616) : takeL (numB x ++ r) = (x, (numB x).length, 0) := by
  have := takeGo_numB r x x 0 0 (Nat.le_refl _) (by omega) (by simpa using hx) (fun h => absurd h (by omega))
  unfold takeL
  rw [this]; simp
theorem takeL_nil : takeL [] = (0, 0, 4) := rfl
theorem numsB_drop (q : List UInt64) (k : Nat) : (numsB q).drop (numsB (q.take k)).length = numsB (q.drop k) := by
  have : numsB q = numsB (q.take k) ++ numsB (q.drop k) := by unfold numsB; rw [← List.flatMap_append, List.take_append_drop]
  rw [this, List.drop_left]
theorem numsB_cons (x : UInt64) (q : List UInt64) : numsB (x :: q) = numB x.toNat ++ numsB q := by simp [numsB]
theorem foldN_eightB (x : Nat) (hx : x < 18446744073709551616) : foldN (eightB x) = x := by
  have e : eightB x = [UInt8.ofNat (x / 2 ^ 56), UInt8.ofNat (x / 2 ^ 48), UInt8.ofNat (x / 2 ^ 40), UInt8.ofNat (x / 2 ^ 32), UInt8.ofNat (x / 2 ^ 24), UInt8.ofNat (x / 2 ^ 16), UInt8.ofNat (x / 2 ^ 8), UInt8.ofNat (x / 2 ^ 0)] := rfl
  rw [e]
  simp only [foldN, List.foldl_cons, List.foldl_nil, UInt8.toNat_ofNat']
  omega
theorem uneightL_eightB (x : Nat) (hx : x < 18446744073709551616) : uneightL (eightB x) = (x, 0) := by
  unfold uneightL
  rw [eightB_len, if_neg (by omega), List.take_of_length_le (by rw [eightB_len]; omega), foldN_eightB x hx]
theorem numB_inj {a b : Nat} (ha : a < 18446744073709551616) (hb : b < 18446744073709551616) (h : numB a = numB b) : a = b := by
  have h1 := takeL_numB a [] ha
  have h2 := takeL_numB b [] hb
  rw [h, h2] at h1
  exact (Prod.mk.inj h1).1.symm
theorem numB_mono : ∀ (n a b : Nat), b ≤ n → a ≤ b → (numB a).length ≤ (numB b).length := by
  intro n
  induction n with
  | zero => intro a b hb hab; rw [show a = b by omega]; exact Nat.le_refl _
  | succ n ih =>
    intro a b hb hab
    by_cases h1 : a < 128
    · rw [numB_lo h1]; exact numB_pos b
    · rw [numB_hi h1, numB_hi (show ¬ b < 128 by omega)]
      have := ih (a / 128) (b / 128) (by omega) (Nat.div_le_div_right hab)
      simp only [List.length_cons]; omega
/-- what bytes come to as one number, the highest first -/
def valB : List UInt8 → Nat
  | [] => 0
  | c :: r => c.toNat * 256 ^ r.length + valB r
theorem valB_lt (l : List UInt8) : valB l < 256 ^ l.length := by
  induction l with
  | nil => simp [valB]
  | cons c r ih =>
    have hc := c.toNat_lt
    have h1 : c.toNat * 256 ^ r.length ≤ 255 * 256 ^ r.length := Nat.mul_le_mul_right _ (by omega)
    simp only [valB, List.length_cons, Nat.pow_succ]; omega
theorem foldl_valB (l : List UInt8) : ∀ a : Nat, l.foldl (fun a c => a * 256 + c.toNat) a = a * 256 ^ l.length + valB l := by
  induction l with
  | nil => intro a; simp [valB]
  | cons c r ih =>
    intro a
    rw [List.foldl_cons, ih, valB, List.length_cons, Nat.pow_succ, Nat.add_mul, Nat.mul_assoc, Nat.mul_comm 256, Nat.add_assoc]
theorem foldN_valB (l : List UInt8) : foldN l = valB l := by unfold foldN; rw [foldl_valB]; simp
theorem less_valB : ∀ (l m : List UInt8), l.length = m.length → Op.bytesLess l m = decide (valB l < valB m)
  | [], [], _ => by simp [Op.bytesLess]
  | c :: r, d :: s, h => by
    have hl : r.length = s.length := by simpa using h
    have ih := less_valB r s hl
    have h1 := valB_lt r
    have h2 := valB_lt s
    rw [hl] at h1
    simp only [Op.bytesLess, valB, ih, hl]
    by_cases hcd : c < d
    · have hcd' : c.toNat < d.toNat := UInt8.lt_iff_toNat_lt.1 hcd
      have hm : (c.toNat + 1) * 256 ^ s.length ≤ d.toNat * 256 ^ s.length := Nat.mul_le_mul_right _ hcd'
      rw [Nat.add_mul] at hm
      have : c.toNat * 256 ^ s.length + valB r < d.toNat * 256 ^ s.length + valB s := by omega
      simp [hcd, this]
    · by_cases he : c = d
      · subst he; simp
      · have hcd' : d.toNat < c.toNat := by
          have h3 : ¬ c.toNat < d.toNat := fun h => hcd (UInt8.lt_iff_toNat_lt.2 h)
          have h4 : c.toNat ≠ d.toNat := fun h => he (UInt8.toNat_inj.1 h)
          omega
        have hm : (d.toNat + 1) * 256 ^ s.length ≤ c.toNat * 256 ^ s.length := Nat.mul_le_mul_right _ hcd'
        rw [Nat.add_mul] at hm
        have : ¬ c.toNat * 256 ^ s.length + valB r < d.toNat * 256 ^ s.length + valB s := by omega
        simp [hcd, he, this]
theorem less_eightB {a b : Nat} (ha : a < 18446744073709551616) (hb : b < 18446744073709551616) : Op.bytesLess (eightB a) (eightB b) = decide (a < b) := by
  rw [less_valB _ _ (by rw [eightB_len, eightB_len]), ← foldN_valB, ← foldN_valB, foldN_eightB a ha, foldN_eightB b hb]
theorem eightB_inj {a b : Nat} (ha : a < 18446744073709551616) (hb : b < 18446744073709551616) (h : eightB a = eightB b) : a = b := by
  rw [← foldN_eightB a ha, ← foldN_eightB b hb, h]
/-! ### lists -/
theorem takeGo_cut : ∀ (n x j i acc : Nat), x ≤ n → i ≤ 9 → x < 2 ^ (64 - 7 * i) → (0 < i → 0 < x) → j < (numB x).length → takeGo ((numB x).take j) i acc = (0, 0, 4) := by
  intro n
  induction n with
  | zero =>
    intro x j i acc hx hi h1 h2 hj
    have h0 : x = 0 := by omega
    subst h0
    rw [numB_lo (by omega)] at hj ⊢
    have : j = 0 := by simpa using hj
    subst this
    rfl
  | succ n ih =>
    intro x j i acc hx hi h1 h2 hj
    by_cases hlt : x < 128
    · rw [numB_lo hlt] at hj ⊢
      have : j = 0 := by simpa using hj
      subst this
      rfl
    · rw [numB_hi hlt] at hj ⊢
      have e : (UInt8.ofNat (x % 128 + 128)).toNat = x % 128 + 128 := by simp; omega
      have h8 : i ≤ 8 := by
        rcases Nat.lt_or_ge i 9 with h | h
        · omega
        · have : i = 9 := by omega
          subst this; simp at h1; omega
      cases j with
      | zero => rfl
      | succ j =>
        rw [List.take_succ_cons, takeGo_more, e]
        · refine ih (x / 128) j (i + 1) _ (by omega) (by omega) ?_ (fun _ => by omega) (by simpa using hj)
          rw [Nat.div_lt_iff_lt_mul (by decide), show (128 : Nat) = 2 ^ 7 from rfl, ← Nat.pow_add]
          rw [show 64 - 7 * (i + 1) + 7 = 64 - 7 * i by omega]; exact h1
        · rw [e]; omega
        · rw [e]; omega
theorem takeL_cut {x j : Nat} (hx : x < 18446744073709551616) (hj : j < (numB x).length) : takeL ((numB x).take j) = (0, 0, 4) :=
  takeGo_cut x x j 0 0 (Nat.le_refl _) (by omega) (by simpa using hx) (fun h => absurd h (by omega)) hj
theorem unGo_full (q : List UInt64) : ∀ (pre r : List UInt8) (acc : List UInt64), unGo q.length (pre ++ (numsB q ++ r)) pre.length acc = (acc ++ q, pre.length + (numsB q).length, 0) := by
  induction q with
  | nil => intro pre r acc; simp [unGo, numsB]
  | cons x q ih =>
    intro pre r acc
    rw [List.length_cons, unGo, List.drop_left, numsB_cons, List.append_assoc, takeL_numB _ _ x.toNat_lt]
    have h := ih (pre ++ numB x.toNat) r (acc ++ [UInt64.ofNat x.toNat])
    rw [List.length_append, List.append_assoc] at h
    simp only [if_true]
    rw [h]
    simp [Nat.add_assoc]
theorem unGo_cut (q : List UInt64) : ∀ (pre : List UInt8) (j : Nat) (acc : List UInt64), j < (numsB q).length → unGo q.length (pre ++ (numsB q).take j) pre.length acc = ([], 0, 4) := by
  induction q with
  | nil => intro pre j acc h; simp [numsB] at h
  | cons x q ih =>
    intro pre j acc hj
    rw [numsB_cons] at hj ⊢
    rw [List.length_cons, unGo, List.drop_left]
    by_cases h : j < (numB x.toNat).length
    · rw [List.take_append_of_le_length (by omega), takeL_cut x.toNat_lt h]; simp
    · have e : (numB x.toNat ++ numsB q).take j = numB x.toNat ++ (numsB q).take (j - (numB x.toNat).length) := by
        rw [List.take_append]
        rw [List.take_of_length_le (by omega)]
      rw [e, takeL_numB _ _ x.toNat_lt]
      have h2 := ih (pre ++ numB x.toNat) (j - (numB x.toNat).length) (acc ++ [UInt64.ofNat x.toNat]) (by rw [List.length_append] at hj; omega)
      rw [List.length_append, List.append_assoc] at h2
      simp only [if_true]
      exact h2
theorem unlist_full (q : List UInt64) (r : List UInt8) (most : Int) (hq : q.length < 18446744073709551616) (hm : (q.length : Int) ≤ most) : unlistL (listB q ++ r) most = (q, (listB q).length, 0) := by
  unfold unlistL listB
  rw [List.append_assoc, takeL_numB _ _ hq]
  rw [if_neg (by simp), if_neg (by split <;> omega)]
  rw [unGo_full]
  simp
theorem unlist_long (q : List UInt64) (r : List UInt8) (most : Int) (hq : q.length < 18446744073709551616) (hm : most < (q.length : Int)) (h0 : 0 < q.length) : unlistL (listB q ++ r) most = ([], 0, 2) := by
  unfold unlistL listB
  rw [List.append_assoc, takeL_numB _ _ hq]
  rw [if_neg (by simp), if_pos (by split <;> omega)]
theorem unlist_cut (q : List UInt64) (j : Nat) (most : Int) (hq : q.length < 18446744073709551616) (hm : (q.length : Int) ≤ most) (hj : j < (listB q).length) : unlistL ((listB q).take j) most = ([], 0, 4) := by
  unfold unlistL
  by_cases h : j < (numB q.length).length
  · have e : (listB q).take j = (numB q.length).take j := by unfold listB; rw [List.take_append_of_le_length (by omega)]
    rw [e, takeL_cut hq h]; simp
  · have e : (listB q).take j = numB q.length ++ (numsB q).take (j - (numB q.length).length) := by
      unfold listB; rw [List.take_append, List.take_of_length_le (by omega)]
    rw [e, takeL_numB _ _ hq, if_neg (by simp), if_neg (by split <;> omega)]
    exact unGo_cut q _ _ _ (by unfold listB at hj; rw [List.length_append] at hj; omega)
theorem listB_pos (q : List UInt64) : 1 ≤ (listB q).length := by unfold listB; rw [List.length_append]; have := numB_pos q.length; omega
theorem listB_len (q : List UInt64) (hq : q.length < 18446744073709551616) : (listB q).length ≤ 10 + 10 * q.length := by
  unfold listB; rw [List.length_append]; have := numB_ten hq; have := numsB_len q; omega

theorem unGo_len : ∀ (k : Nat) (l : List UInt8) (a : Nat) (acc : List UInt64), (unGo k l a acc).1.length ≤ acc.length + (l.length - a)
  | 0, l, a, acc => by simp only [unGo]; omega
  | k + 1, l, a, acc => by
    rw [unGo]
    split
    · rename_i h
      have h2 := takeL_ok h
      have h3 := unGo_len k l (a + (takeL (l.drop a)).2.1) (acc ++ [UInt64.ofNat (takeL (l.drop a)).1])
      simp only [List.length_append, List.length_singleton, List.length_drop] at h2 h3
      omega
    · simp
theorem unlistL_len (l : List UInt8) (most : Int) : (unlistL l most).1.length ≤ l.length := by
  have h := unGo_len (takeL l).1 l (takeL l).2.1 []
  simp only [List.length_nil] at h
  unfold unlistL
  by_cases h1 : (takeL l).2.2 ≠ 0
  · rw [if_pos h1]; simp
  · rw [if_neg h1]
    by_cases h2 : (if most < 0 then 0 else most) < ((takeL l).1 : Int)
    · rw [if_pos h2]; simp
    · rw [if_neg h2]; omega

/-! ### numbers that are none -/
/-- a byte more than is needed: the last byte's highest bit set, nought behind it -/
theorem takeGo_more0 : ∀ (n x i acc : Nat), x ≤ n → ∀ l c, numB x = l ++ [c] → takeGo (l ++ [UInt8.ofNat (c.toNat % 128 + 128), 0]) i acc = (0, 0, 3) := by
  intro n
  induction n with
  | zero =>
    intro x i acc hx l c h
    rw [numB_lo (by omega)] at h
    cases l with
    | nil => exact step0 i acc _
    | cons d l => have := congrArg List.length h; simp at this
  | succ n ih =>
    intro x i acc hx l c h
    by_cases hlt : x < 128
    · rw [numB_lo hlt] at h
      cases l with
      | nil => exact step0 i acc _
      | cons d l => have := congrArg List.length h; simp at this
    · rw [numB_hi hlt] at h
      cases l with
      | nil =>
        have h1 := numB_pos (x / 128)
        have := congrArg List.length h; simp at this
        rw [this] at h1; simp at h1
      | cons d l =>
        rw [List.cons_append, List.cons.injEq] at h
        obtain ⟨rfl, h2⟩ := h
        rw [List.cons_append]
        by_cases hf : (i = 9 ∧ 1 < (UInt8.ofNat (x % 128 + 128)).toNat) ∨ (0 < i ∧ (UInt8.ofNat (x % 128 + 128)).toNat = 0)
        · exact takeGo_form hf
        · rw [takeGo_more hf (by simp; omega)]
          exact ih (x / 128) _ _ (by omega) l c h2
where
  step0 (i acc : Nat) (c : UInt8) : takeGo ([] ++ [UInt8.ofNat (c.toNat % 128 + 128), 0]) i acc = (0, 0, 3) := by
    rw [List.nil_append]
    by_cases hf : (i = 9 ∧ 1 < (UInt8.ofNat (c.toNat % 128 + 128)).toNat) ∨ (0 < i ∧ (UInt8.ofNat (c.toNat % 128 + 128)).toNat = 0)
    · exact takeGo_form hf
    · rw [takeGo_more hf (by simp; omega)]
      exact takeGo_form (.inr ⟨by omega, rfl⟩)
theorem takeL_more0 {x : Nat} {l : List UInt8} {c : UInt8} (h : numB x = l ++ [c]) : takeL (l ++ [UInt8.ofNat (c.toNat % 128 + 128), 0]) = (0, 0, 3) :=
  takeGo_more0 x x 0 0 (Nat.le_refl _) l c h
theorem takeL_great (c : UInt8) (h : 1 < c.toNat) : takeL [255, 255, 255, 255, 255, 255, 255, 255, 255, c] = (0, 0, 3) := by
  unfold takeL
  iterate 9 (rw [takeGo_more (by decide) (by decide)])
  exact takeGo_form (.inl ⟨rfl, h⟩)

/-! ### a mask -/
theorem i64_and_le (a : Int) (m : Nat) (hm : m < 9223372036854775808) : ∃ k : Nat, bits .and .i64 a (m : Int) = (k : Int) ∧ k ≤ m := by
  refine ⟨(BitVec.ofInt 64 a).toNat &&& m, ?_, Nat.and_le_right⟩
  have hk : (BitVec.ofInt 64 a).toNat &&& m ≤ m := Nat.and_le_right
  show IntKind.i64.wrap ((BitVec.ofInt 64 a &&& BitVec.ofInt 64 (m : Int)).toNat : Int) = _
  rw [BitVec.toNat_and, ofInt_u64 m (by omega), IntKind.wrap_i64]
  omega
end Go.Proofs.Ytebhhfmekmpnkaa
