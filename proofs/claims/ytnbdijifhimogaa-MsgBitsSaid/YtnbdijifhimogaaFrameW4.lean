/-
  The walks of slices.Grow and slices.Concat, of bytes.
-/
import Derived.Test.YtnbdijifhimogaaFrameW3
import Derived.Lib.AppendZeros
namespace Go.Proofs.Ytnbdijifhimogaa
open Go.RowKit
set_option linter.unusedVariables false
set_option linter.unusedSimpArgs false

theorem grown_row (w : World) (n : Nat) (base : Nat) (h0 : 0 < n) (hb : base ≤ w.heap.size) (hm : n ≤ 140737488355328) :
    ∃ c w', (Builtin.append_ #[28, 3] 28 #[.slice none 0 0, .int .i64 n]).run Try.prog w = .ok (.slice (some ⟨w.heap.size, 0, none⟩) n c) w' ∧ OwnB w' base (some ⟨w.heap.size, 0, none⟩) 0 c [] ∧ Up w w' ∧ n ≤ c := by
  obtain ⟨i, hi, hz, hs, hby⟩ := info_parts (P := Try.prog) (e := 5) (z := .int .u8 0) (size := 1) (bytes := 1) (by kernel_rfl)
  have := Lib.run_append_nil_zeros (P := Try.prog) w 28 3 28 5 i (.int .u8 0) .i64 .i64 bytesT.ut Try.underlying3 hi hz n h0 (by rw [hs]; omega) (by omega) (by rw [hby]; omega)
  have hge := grownCap_ge w n 0 5
  have hle := grownCap_le_maxLen w n 0 5 (by simp only [maxLen]; omega)
  refine ⟨_, _, this, ?_, (Up.refl w).drew.alloc _, hge⟩
  refine ⟨rfl, .inr ⟨w.heap.size, _, _, rfl, hb, heap_alloc_new w.drew _, Nat.zero_le _, hle, ?_, rfl⟩⟩
  rw [Array.size_append, size_zeroCells, size_zeroCells]
  show n * 1 + (_ - n) * 1 = _ * 1
  omega

set_option maxRecDepth 100000 in
set_option maxHeartbeats 1600000 in
theorem grow_any (n : Nat) (w : World) (hm : n ≤ 140737488355328) :
    Calls Try.prog 50 #[.slice none 0 0, .int .i64 n] w fun e w' => ∃ A c, e = .returned (.slice A 0 c) ∧ OwnB w' w.heap.size A 0 c [] ∧ Up w w' := by
  by_cases h0 : 0 < n
  · go_enter Try.func50, Try.ntmps50
    obtain ⟨c, w2, hrun, hown, hu, hc⟩ := grown_row w n w.heap.size h0 (Nat.le_refl _) hm
    have h9 : (n : Int) ≤ 9223372036854775807 := by omega
    go_wp2_with (at_builtin; refine Lib.wpList_append_run _ rfl _ _ _ _ rfl _ _ rfl rfl _ _ hrun ?_)
    go_ret
    exact ⟨_, c, rfl, hown, hu⟩
  · obtain rfl : n = 0 := by omega
    go_enter Try.func50, Try.ntmps50
    go_wp2_with fail
    go_ret
    exact ⟨none, 0, rfl, World.ownsRow_nil _ _ _ _, Up.refl _⟩
def ptsL (ps : List Pt) : List UInt8 := ps.flatMap (·.l)
theorem ptsL_take {ps : List Pt} {k : Nat} {p : Pt} (h : ps[k]? = some p) : ptsL (ps.take (k + 1)) = ptsL (ps.take k) ++ p.l := by
  obtain ⟨hk, rfl⟩ := List.getElem?_eq_some_iff.1 h
  unfold ptsL
  rw [List.take_succ_eq_append_getElem hk, List.flatMap_append, List.flatMap_singleton]
theorem ptsL_le (ps : List Pt) (k : Nat) : (ptsL (ps.take k)).length ≤ (ptsL ps).length := by
  have : ptsL ps = ptsL (ps.take k) ++ ptsL (ps.drop k) := by
    unfold ptsL; rw [← List.flatMap_append, List.take_append_drop]
  rw [this, List.length_append]; omega

set_option maxRecDepth 100000 in
set_option maxHeartbeats 1600000 in
theorem concat_any (Q : Option Addr) (m d : Nat) (ps : List Pt) (w : World) (hq : Rd w w.heap.size 1 Q m (ps.map Pt.v)) (hp : ∀ p ∈ ps, Rd w w.heap.size 1 p.A p.n (bvs p.l)) (ht : (ptsL ps).length ≤ 1099511627776) (hm : m ≤ 9223372036854775807) :
    Calls Try.prog 37 #[.slice Q m d] w fun e w' => ∃ A c, e = .returned (.slice A (ptsL ps).length c) ∧ OwnB w' w.heap.size A (ptsL ps).length c (ptsL ps) ∧ Up w w' := by
  have HM : Hid (m = ps.length) := by show _ = _; have := hq.1; rw [List.length_map] at this; omega
  have HP := Lib.hid hp
  clear hp
  have at_ : ∀ k, k < m → ∃ b o p, Q = some ⟨b, o, none⟩ ∧ b < w.heap.size ∧ ps[k]? = some p ∧ p ∈ ps ∧ ∀ W, Up w W → W.cell? ⟨b, o + k, none⟩ = some (.slice p.A p.n p.c) := by
    intro k hk
    obtain ⟨b, o, e, hb, hc⟩ := hq.2 (by omega)
    have hkl : k < ps.length := by have := HM.out; omega
    refine ⟨b, o, ps[k], e, hb, List.getElem?_eq_getElem hkl, List.getElem_mem _, fun W hW => ?_⟩
    have h1 := hc k (ps[k]).v (by simp [hkl])
    exact (hW.cell (p := ⟨b, o + k, none⟩) hb).trans h1
  have AT := Lib.hid at_
  clear at_
  have HT := Lib.hid ht
  clear ht
  go_enter Try.func37, Try.ntmps37
  go_wp2_with fail
  go_loop [3, 5, 11] (fun t _ i => ∃ k : Nat, i = .int .i64 (k : Int) ∧ k ≤ m ∧ t = .int .i64 ((ptsL (ps.take k)).length : Int)) (fun _ _ i => m - (intOf i).toNat)
  case atStart => exact ⟨0, rfl, by omega, rfl⟩
  case round =>
    obtain ⟨k, rfl, hk, rfl⟩ := hrel
    by_cases hlt : k < m
    · obtain ⟨b, o, p, rfl, hb, hpk, hpm, hcell⟩ := AT.out k hlt
      have hc := hcell w (Up.refl w)
      have hl := (HP.out p hpm).blen
      have h1 := ptsL_take hpk
      have h2 := ptsL_le ps (k + 1)
      have h3 : (ptsL (ps.take (k + 1))).length = (ptsL (ps.take k)).length + p.n := by rw [h1, List.length_append, hl]
      have H3 := Lib.hid h3
      have hbd : (ptsL (ps.take k)).length + p.n ≤ 1099511627776 := by have := HT.out; omega
      clear h1 h2 h3 hcell hl hpk
      generalize (ptsL (ps.take k)).length = s at *
      go_wp2
      go_round
      case rel => exact ⟨k + 1, by go_num, by omega, by rw [H3.out]; go_num⟩
      case measure => simp [intOf]; omega
    · have hkm : k = m := by omega
      subst hkm
      have hall : ps.take k = ps := List.take_of_length_le (by have := HM.out; omega)
      rw [hall]
      clear hall
      have hbig : (ptsL ps).length ≤ 140737488355328 := by have := HT.out; omega
      go_wp2_with fail
      refine (grow_any _ w hbig).mono ?_
      rintro e w1 ⟨A1, c1, rfl, ho1, hu1⟩
      go_wp2_with fail
      go_loopw [6, 8, 27] (fun v _ i wr => ∃ (j : Nat) (R : Option Addr) (n c : Nat), i = .int .i64 (j : Int) ∧ j ≤ k ∧ v = .slice R n c ∧ OwnB wr w.heap.size R n c (ptsL (ps.take j)) ∧ Up w wr) (fun _ _ i _ => k - (intOf i).toNat)
      case atStart => exact ⟨0, A1, 0, c1, rfl, by omega, rfl, ho1, hu1⟩
      case round =>
        obtain ⟨j, R, n, c, rfl, hj, rfl, ho, hu⟩ := hrel
        by_cases hlt' : j < k
        · obtain ⟨b, o, p, rfl, hb, hpk, hpm, hcell⟩ := AT.out j hlt'
          have hc := hcell wr hu
          have hrp := (HP.out p hpm).stay (Nat.le_refl _) hu
          have hl := hrp.blen
          have h1 := ptsL_take hpk
          have h2 := ptsL_le ps (j + 1)
          have hn := ho.len
          have hbd : n + p.n ≤ 1099511627776 := by
            have := HT.out
            rw [h1, List.length_append] at h2; omega
          have H1 := Lib.hid h1
          clear h1 h2 hcell hl hpk hn
          go_wp2_with (at_builtin; refine wpList_append_rd _ bytesT ho hrp (bvs_one _) (by omega) (by omega) hu.size rfl rfl rfl rfl ?_; intro v2 w2 hown2 hg2 hat2; obtain ⟨A2, c2, rfl⟩ := own_form hown2)
          rw [← bvs_append, ← H1.out] at hown2
          have hu2 : Up w w2 := hu.grown hg2 (fun g hg => (ho.lt g hg).1)
          go_roundw
          case rel => exact ⟨j + 1, A2, n + p.n, c2, by go_num, by omega, rfl, hown2, hu2⟩
          case measure => simp [intOf]; omega
        · have hjk : j = k := by omega
          subst hjk
          have hall : ps.take j = ps := List.take_of_length_le (by have := HM.out; omega)
          rw [hall] at ho
          have hn := ho.len
          have HN := Lib.hid hn
          clear hn hall
          go_wp2_with fail
          go_ret
          have hn := HN.out
          subst hn
          exact ⟨R, c, rfl, ho, hu⟩
end Go.Proofs.Ytnbdijifhimogaa
