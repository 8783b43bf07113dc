/-
  The walk of clepsydraref1.Unframe.
-/
import Derived.Test.YtnbdijifhimogaaFrameW7
import Derived.Test.YtnbdijifhimogaaFrameW8
import Derived.IntWalk
namespace Go.Proofs.Ytnbdijifhimogaa
open Go.RowKit
set_option linter.unusedVariables false
set_option linter.unusedSimpArgs false

theorem tx_cut (l : List UInt8) (a b : Nat) : (tx l).extract a b = tx ((l.drop a).take (b - a)) := tx_of (by
  rw [ByteArray.data_extract, Array.toList_extract, List.extract_eq_take_drop, tx_list])
/-- what Unframe comes to: shut to the walk -/
def UnPost (r : List UInt8) (k : Nat) (w : World) (e : Ending) (w' : World) : Prop :=
  e = .returned (.tuple #[.int .i64 ((takeR r).2.1 : Int), .string (tx (takeR r).2.2.1), .int .i64 (if (takeR r).1 = 0 then (k : Int) + (takeR r).2.2.2 else 0), .int .i64 ((takeR r).1 : Int)]) ∧ Up w w'
theorem UnPost.bad {r : List UInt8} {k E : Nat} {w w' : World} (h : takeR r = (E, 0, [], 0)) (hE : E ≠ 0) (hu : Up w w') : UnPost r k w (.returned (.tuple #[.int .i64 0, .string (ByteArray.mk #[]), .int .i64 0, .int .i64 (E : Int)])) w' := by
  unfold UnPost
  rw [h, if_neg hE]
  exact ⟨rfl, hu⟩
set_option maxRecDepth 100000 in
set_option maxHeartbeats 800000 in
theorem unframe_core (l : List UInt8) (k : Nat) (w : World) (hl : l.length ≤ 549755813888) (hk : k ≤ l.length) :
    Calls Try.prog 32 #[.string (tx l), .int .i64 (k : Int)] w (UnPost (l.drop k) k w) := by
  have hz : (tx l).size = l.length := tx_size l
  have hrl : (l.drop k).length = l.length - k := List.length_drop
  have hcut := tx_cut l
  generalize hn : l.length = n at *
  generalize hr : l.drop k = r at *
  have HR := Lib.hid hr
  have HL := Lib.hid hrl
  have HN := Lib.hid hn
  clear hr hrl hn
  have g0 : decide ((k : Int) < 0) = false := by simp
  have g1 : decide ((n : Int) < (k : Int)) = false := by simp; omega
  have g2 : ¬ (n : Int) < (k : Int) := by omega
  by_cases h8 : n - k < 8
  · have hv : takeR r = (4, 0, [], 0) := by unfold takeR; rw [if_pos (by rw [HL.out]; exact h8)]
    have HV := Lib.hid hv
    clear hv
    have g3 : (n : Int) - k < 8 := by omega
    go_enter Try.func32, Try.ntmps32
    go_wp2_with fail
    refine bodyPost_ret (v := .tuple #[.int .i64 0, .string (ByteArray.mk #[]), .int .i64 0, .int .i64 4]) (by simp [results, Try.results32, go_sem]) rfl ?_
    exact .bad (E := 4) HV.out (by omega) (Up.refl _)
  · have g3 : ¬ (n : Int) - k < 8 := by omega
    have g4 : decide ((n : Int) - k < 8) = false := by simp; omega
    have hx8 : (tx l).extract k (k + 8) = tx (r.take 8) := by rw [hcut, HR.out, Nat.add_sub_cancel_left]
    have q1 : (k : Int) + 8 ≤ (n : Int) := by omega
    have q2 : ((k : Int) + 8).toNat = k + 8 := by omega
    have q3 : (k : Int) ≤ (k : Int) + 8 := by omega
    have HX := Lib.hid hx8
    clear hx8
    by_cases hE : openE (r.take 8) = 0
    · have hL : openL (r.take 8) = r.take 4 := by
        have hl8 : (r.take 8).length - 4 = 4 := by rw [List.length_take, HL.out]; omega
        unfold openL; rw [if_pos hE, hl8, List.take_take]; rfl
      have hb0 : (r.getD 0 0).toNat < 256 := (r.getD 0 0).toNat_lt
      have hb1 : (r.getD 1 0).toNat < 256 := (r.getD 1 0).toNat_lt
      have hb2 : (r.getD 2 0).toNat < 256 := (r.getD 2 0).toNat_lt
      have hb3 : (r.getD 3 0).toNat < 256 := (r.getD 3 0).toNat_lt
      have hT : takeR r = if (r.getD 0 0).toNat < 1 ∨ 100 < (r.getD 0 0).toNat ∨ 60000 < headN r then (3, 0, [], 0)
          else if r.length - 8 < headN r + 4 then (4, 0, [], 0)
          else if openE ((r.drop 8).take (headN r + 4)) ≠ 0 then (openE ((r.drop 8).take (headN r + 4)), 0, [], 0)
          else (0, (r.getD 0 0).toNat, (r.drop 8).take (headN r), headN r + 12) := by
        conv => lhs; unfold takeR
        rw [if_neg (by rw [HL.out]; exact h8), if_neg (by simpa using hE)]
      have hh : headN r = (r.getD 1 0).toNat * 65536 + (r.getD 2 0).toNat * 256 + (r.getD 3 0).toNat := rfl
      rw [hh, HL.out] at hT
      have hl8 : (r.drop 8).length = n - k - 8 := by rw [List.length_drop, HL.out]
      have hd8 : ∀ N, (tx l).extract (k + 8) (k + 12 + N) = tx ((r.drop 8).take (N + 4)) := fun N => by
        rw [hcut, ← HR.out, List.drop_drop, show k + 12 + N - (k + 8) = N + 4 by omega]
      have ht4 : (tx (r.take 4)).size = 4 := by rw [tx_size, List.length_take, HL.out]; omega
      have hbs : ∀ j, j < 4 → ∀ h, (tx (r.take 4))[j]'h = r.getD j 0 := fun j hj h => by
        rw [getD_str (tx_list _) h, take_getD r hj]
      have HE := Lib.hid hE
      have HO := Lib.hid hL
      have HT := Lib.hid hT
      have HL8 := Lib.hid hl8
      have HD8 := Lib.hid hd8
      have HBS := Lib.hid hbs
      clear hL hE hT hh hl8 hd8 hcut hbs
      go_enter Try.func32, Try.ntmps32
      go_wp2_with fail
      rw [HX.out]
      refine (ropen_any (r.take 8) w (by rw [List.length_take]; omega)).mono ?_
      rintro e w1 ⟨rfl, hu1⟩
      rw [HO.out, HE.out]
      generalize r.take 4 = r4 at *
      have i0 := HBS.out 0 (by omega) (by omega)
      have i1 := HBS.out 1 (by omega) (by omega)
      have i2 := HBS.out 2 (by omega) (by omega)
      have i3 := HBS.out 3 (by omega) (by omega)
      generalize r.getD 0 0 = y0 at *
      generalize r.getD 1 0 = y1 at *
      generalize r.getD 2 0 = y2 at *
      generalize r.getD 3 0 = y3 at *
      go_wp2_with fail
      generalize hy0 : y0.toNat = x0 at *
      generalize hy1 : y1.toNat = x1 at *
      generalize hy2 : y2.toNat = x2 at *
      generalize hy3 : y3.toNat = x3 at *
      have v0 : IntKind.i64.wrap (x0 : Int) = x0 := IntWalk.i64_in _ (by omega)
      have v1 : IntKind.i64.wrap (x1 : Int) = x1 := IntWalk.i64_in _ (by omega)
      have v2 : IntKind.i64.wrap (x2 : Int) = x2 := IntWalk.i64_in _ (by omega)
      have v3 : IntKind.i64.wrap (x3 : Int) = x3 := IntWalk.i64_in _ (by omega)
      have v4 : IntKind.i64.wrap ((x1 : Int) * 65536) = (x1 : Int) * 65536 := IntWalk.i64_in _ (by omega)
      have v5 : IntKind.i64.wrap ((x2 : Int) * 256) = (x2 : Int) * 256 := IntWalk.i64_in _ (by omega)
      have v6 := or_head x1 x2 x3 hb1 hb2 hb3
      have hNb : x1 * 65536 + x2 * 256 + x3 < 16777216 := by omega
      generalize hN : x1 * 65536 + x2 * 256 + x3 = N at v6 hNb
      have hT := HT.out
      rw [hN] at hT
      have HT2 := Lib.hid hT
      have HD := Lib.hid (HD8.out N)
      clear hN hT HT HD8 HBS
      apply Rg.region_up (fun W => Up w1 W) (by kernel_rfl) (by kernel_rfl) (fun w1 h => h)
      · intro QN hQN
        iterate 14 (apply Rg.RK.ok; (· intro vs w1 hS; go_simp; with_reducible rfl); (· rfl); simp only [Act.put, List.setIfInBounds_toArray, List.set_cons_zero, List.set_cons_succ, Nat.reduceAdd])
        apply Rg.RK.fin []
        intro vs w1 hK hS _
        refine hQN.out _ _ ?_
        clear hQN
        have hu2 := hu1.trans (keeps_up hK)
        clear v1 v2 v3 v4 v5 v6 i1 i2 i3 hy1 hy2 hy3 hS hK
        by_cases hbad : x0 < 1 ∨ 100 < x0 ∨ 60000 < N
        · have hv : takeR r = (3, 0, [], 0) := by rw [HT2.out, if_pos hbad]
          have hpe : putE (x0 : Int) N ≠ 0 := by unfold putE; split; simp; split; simp; omega
          have HV := Lib.hid hv
          clear hv
          go_wp2_with fail
          refine (frameok_any (x0 : Int) N _ (by omega)).mono ?_
          rintro e w2 ⟨rfl, rfl⟩
          generalize putE (x0 : Int) N = E3 at *
          have hE3 : ¬ (E3 : Int) = 0 := by omega
          go_wp2_with fail
          refine bodyPost_ret (v := .tuple #[.int .i64 0, .string (ByteArray.mk #[]), .int .i64 0, .int .i64 3]) (by simp [results, Try.results32, go_sem]) rfl ?_
          exact .bad (E := 3) HV.out (by omega) hu2
        · have hpe : putE (x0 : Int) N = 0 := by unfold putE; rw [if_neg (by omega), if_neg (by omega)]
          have HP := Lib.hid hpe
          have hN6 : N ≤ 60000 := by omega
          clear hpe
          by_cases hx4 : n - k - 8 < N + 4
          · have hv : takeR r = (4, 0, [], 0) := by rw [HT2.out, if_neg hbad, if_pos hx4]
            have HV := Lib.hid hv
            clear hv
            have g6 : (n : Int) - k - 8 < N + 4 := by omega
            go_wp2_with fail
            refine (frameok_any (x0 : Int) N _ (by omega)).mono ?_
            rintro e w2 ⟨rfl, rfl⟩
            rw [HP.out]
            go_wp2_with fail
            refine bodyPost_ret (v := .tuple #[.int .i64 0, .string (ByteArray.mk #[]), .int .i64 0, .int .i64 4]) (by simp [results, Try.results32, go_sem]) rfl ?_
            exact .bad (E := 4) HV.out (by omega) hu2
          · have g6 : ¬ (n : Int) - k - 8 < N + 4 := by omega
            have q4 : ((k : Int) + 12 + N).toNat = k + 12 + N := by omega
            have q5 : (k : Int) + 8 ≤ (k : Int) + 12 + N := by omega
            have q6 : (k : Int) + 12 + N ≤ (n : Int) := by omega
            have q7 : (0 : Int) ≤ (k : Int) + 8 := by omega
            have hlen5 : ((r.drop 8).take (N + 4)).length = N + 4 := by rw [List.length_take, HL8.out]; omega
            by_cases hx5 : openE ((r.drop 8).take (N + 4)) = 0
            · have hv : takeR r = (0, x0, (r.drop 8).take N, N + 12) := by rw [HT2.out, if_neg hbad, if_neg hx4, if_neg (by simpa using hx5)]
              have hL5 : openL ((r.drop 8).take (N + 4)) = (r.drop 8).take N := by
                unfold openL; rw [if_pos hx5, hlen5, List.take_take, Nat.min_eq_left (by omega)]; simp
              have HV := Lib.hid hv
              have H5 := Lib.hid hx5
              have HL5 := Lib.hid hL5
              have H6 := Lib.hid hlen5
              clear hv hx5 hL5 hlen5
              go_wp2_with fail
              refine (frameok_any (x0 : Int) N _ (by omega)).mono ?_
              rintro e w2 ⟨rfl, rfl⟩
              rw [HP.out]
              go_wp2_with fail
              rw [HD.out]
              refine (ropen_any _ w1 (by rw [H6.out]; omega)).mono ?_
              rintro e w3 ⟨rfl, hu3⟩
              rw [HL5.out, H5.out]
              go_wp2_with fail
              refine bodyPost_ret (v := .tuple #[.int .i64 (x0 : Int), .string (tx ((r.drop 8).take N)), .int .i64 ((k : Int) + 12 + N), .int .i64 0]) (by simp [results, Try.results32, go_sem]) rfl ?_
              unfold UnPost
              rw [HV.out]
              have e12 : (k : Int) + 12 + N = (k : Int) + ((N + 12 : Nat) : Int) := by omega
              rw [e12]
              exact ⟨rfl, hu2.trans hu3⟩
            · have hv : takeR r = (openE ((r.drop 8).take (N + 4)), 0, [], 0) := by rw [HT2.out, if_neg hbad, if_neg hx4, if_pos hx5]
              have HV := Lib.hid hv
              have H6 := Lib.hid hlen5
              clear hv hlen5
              go_wp2_with fail
              refine (frameok_any (x0 : Int) N _ (by omega)).mono ?_
              rintro e w2 ⟨rfl, rfl⟩
              rw [HP.out]
              go_wp2_with fail
              rw [HD.out]
              refine (ropen_any _ w1 (by rw [H6.out]; omega)).mono ?_
              rintro e w3 ⟨rfl, hu3⟩
              generalize openE ((r.drop 8).take (N + 4)) = E5 at *
              have hE5 : ¬ (E5 : Int) = 0 := by omega
              go_wp2_with fail
              refine bodyPost_ret (v := .tuple #[.int .i64 0, .string (ByteArray.mk #[]), .int .i64 0, .int .i64 (E5 : Int)]) (by simp [results, Try.results32, go_sem]) rfl ?_
              exact .bad HV.out hx5 (hu2.trans hu3)
      · kernel_rfl
    · have hv : takeR r = (openE (r.take 8), 0, [], 0) := by unfold takeR; rw [if_neg (by rw [HL.out]; exact h8), if_pos hE]
      have HV := Lib.hid hv
      clear hv hcut
      go_enter Try.func32, Try.ntmps32
      go_wp2_with fail
      rw [HX.out]
      refine (ropen_any (r.take 8) w (by rw [List.length_take]; omega)).mono ?_
      rintro e w1 ⟨rfl, hu1⟩
      generalize openE (r.take 8) = E5 at *
      have hE5 : ¬ (E5 : Int) = 0 := by omega
      go_wp2_with fail
      refine bodyPost_ret (v := .tuple #[.int .i64 0, .string (ByteArray.mk #[]), .int .i64 0, .int .i64 (E5 : Int)]) (by simp [results, Try.results32, go_sem]) rfl ?_
      exact .bad HV.out hE hu1
set_option maxRecDepth 100000 in
set_option maxHeartbeats 800000 in
theorem unframe_any (l : List UInt8) (at_ : Int) (w : World) (hl : l.length ≤ 549755813888) :
    Calls Try.prog 32 #[.string (tx l), .int .i64 at_] w fun e w' => e = .returned (.tuple #[.int .i64 ((takeF l at_).2.1 : Int), .string (tx (takeF l at_).2.2.1), .int .i64 (takeF l at_).2.2.2, .int .i64 ((takeF l at_).1 : Int)]) ∧ Up w w' := by
  by_cases h0 : at_ < 0 ∨ (l.length : Int) < at_
  · have hv : takeF l at_ = (1, 0, [], 0) := by unfold takeF; rw [if_pos h0]
    have HV := Lib.hid hv
    have hz : (tx l).size = l.length := tx_size l
    clear hv
    rcases h0 with h0 | h0
    · go_enter Try.func32, Try.ntmps32
      go_wp2_with fail
      refine bodyPost_ret (v := .tuple #[.int .i64 0, .string (ByteArray.mk #[]), .int .i64 0, .int .i64 1]) (by simp [results, Try.results32, go_sem]) rfl ?_
      rw [HV.out]
      exact ⟨rfl, Up.refl _⟩
    · have h1 : ¬ at_ < 0 := by omega
      have hd1 : decide (at_ < 0) = false := by simp; omega
      go_enter Try.func32, Try.ntmps32
      go_wp2_with fail
      refine bodyPost_ret (v := .tuple #[.int .i64 0, .string (ByteArray.mk #[]), .int .i64 0, .int .i64 1]) (by simp [results, Try.results32, go_sem]) rfl ?_
      rw [HV.out]
      exact ⟨rfl, Up.refl _⟩
  · obtain ⟨k, rfl⟩ := Int.eq_ofNat_of_zero_le (show 0 ≤ at_ by omega)
    have hv : takeF l (k : Int) = ((takeR (l.drop k)).1, (takeR (l.drop k)).2.1, (takeR (l.drop k)).2.2.1, if (takeR (l.drop k)).1 = 0 then (k : Int) + (takeR (l.drop k)).2.2.2 else 0) := by
      unfold takeF; rw [if_neg h0]; rfl
    rw [hv]
    exact unframe_core l k w hl (by omega)
end Go.Proofs.Ytnbdijifhimogaa
