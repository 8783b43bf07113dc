/-
  The walk of frame.Take.
-/
import Derived.Test.YtnbdijifhimogaaFrameW5
import Derived.IntWalk
namespace Go.Proofs.Ytnbdijifhimogaa
open Go.RowKit
set_option linter.unusedVariables false
set_option linter.unusedSimpArgs false

/-- the length that a head tells -/
def headN (h : List UInt8) : Nat := (h.getD 1 0).toNat * 65536 + (h.getD 2 0).toNat * 256 + (h.getD 3 0).toNat
/-- what stands at the beginning of r: the error, the kind, the body, how many bytes -/
def takeR (r : List UInt8) : Nat × Nat × List UInt8 × Nat :=
  if r.length < 8 then (4, 0, [], 0)
  else if openE (r.take 8) ≠ 0 then (openE (r.take 8), 0, [], 0)
  else if (r.getD 0 0).toNat < 1 ∨ 100 < (r.getD 0 0).toNat ∨ 60000 < headN r then (3, 0, [], 0)
  else if r.length - 8 < headN r + 4 then (4, 0, [], 0)
  else if openE ((r.drop 8).take (headN r + 4)) ≠ 0 then (openE ((r.drop 8).take (headN r + 4)), 0, [], 0)
  else (0, (r.getD 0 0).toNat, (r.drop 8).take (headN r), headN r + 12)
/-- Take: the error, the kind, the body, where it ends -/
def takeF (l : List UInt8) (at_ : Int) : Nat × Nat × List UInt8 × Int :=
  if at_ < 0 ∨ (l.length : Int) < at_ then (1, 0, [], 0)
  else ((takeR (l.drop at_.toNat)).1, (takeR (l.drop at_.toNat)).2.1, (takeR (l.drop at_.toNat)).2.2.1, if (takeR (l.drop at_.toNat)).1 = 0 then at_ + (takeR (l.drop at_.toNat)).2.2.2 else 0)

theorem i64_or (a b : Nat) (ha : a < 4611686018427387904) (hb : b < 4611686018427387904) : bits .or .i64 (a : Int) (b : Int) = ((a ||| b : Nat) : Int) := by
  have hlt : a ||| b < 2 ^ 62 := Nat.or_lt_two_pow ha hb
  show IntKind.i64.wrap ((BitVec.ofInt 64 (a : Int) ||| BitVec.ofInt 64 (b : Int)).toNat : Int) = _
  rw [BitVec.toNat_or, BitVec.ofInt_natCast, BitVec.ofInt_natCast, BitVec.toNat_ofNat, BitVec.toNat_ofNat, Nat.mod_eq_of_lt (by omega), Nat.mod_eq_of_lt (by omega), IntKind.wrap_i64]
  omega
/-- the bytes of a length put together -/
theorem or_head (x1 x2 x3 : Nat) (h1 : x1 < 256) (h2 : x2 < 256) (h3 : x3 < 256) : bits .or .i64 (bits .or .i64 ((x1 : Int) * 65536) ((x2 : Int) * 256)) (x3 : Int) = ((x1 * 65536 + x2 * 256 + x3 : Nat) : Int) := by
  have e1 : (x1 : Int) * 65536 = ((x1 * 65536 : Nat) : Int) := by omega
  have e2 : (x2 : Int) * 256 = ((x2 * 256 : Nat) : Int) := by omega
  have a1 : x1 * 65536 ||| x2 * 256 = x1 * 65536 + x2 * 256 := by
    have := Nat.two_pow_add_eq_or_of_lt (i := 16) (b := x2 * 256) (by omega) x1
    rw [show 2 ^ 16 = 65536 from rfl, Nat.mul_comm 65536] at this
    exact this.symm
  have a2 : (x1 * 65536 + x2 * 256) ||| x3 = x1 * 65536 + x2 * 256 + x3 := by
    have := Nat.two_pow_add_eq_or_of_lt (i := 8) (b := x3) (by omega) (x1 * 256 + x2)
    rw [show 2 ^ 8 * (x1 * 256 + x2) = x1 * 65536 + x2 * 256 by omega] at this
    exact this.symm
  rw [e1, e2, i64_or _ _ (by omega) (by omega), a1, i64_or _ _ (by omega) (by omega), a2]
theorem take_getD (r : List UInt8) {k j : Nat} (h : j < k) : (r.take k).getD j 0 = r.getD j 0 := by
  simp only [List.getD_eq_getElem?_getD, List.getElem?_take, if_pos h]
/-- the four bytes of a head, in whatever grows out of that world -/
theorem four_held {w : World} {base n c : Nat} {A : Option Addr} {l : List UInt8} (h : OwnB w base A n c l) (hn : n = 4) : ∃ g, A = some ⟨g, 0, none⟩ ∧ ∀ W, Up w W →
    W.cell? ⟨g, 0, none⟩ = some (.int .u8 ((l.getD 0 0).toNat : Int)) ∧ W.cell? ⟨g, 1, none⟩ = some (.int .u8 ((l.getD 1 0).toNat : Int)) ∧ W.cell? ⟨g, 2, none⟩ = some (.int .u8 ((l.getD 2 0).toNat : Int)) ∧ W.cell? ⟨g, 3, none⟩ = some (.int .u8 ((l.getD 3 0).toNat : Int)) := by
  obtain ⟨g, rfl, _, hg⟩ := own_some h (by omega)
  refine ⟨g, rfl, fun W hW => ?_⟩
  have got : ∀ j, j < 4 → W.cell? ⟨g, j, none⟩ = some (.int .u8 ((l.getD j 0).toNat : Int)) := fun j hj => by
    obtain ⟨b, o, e, hb, hc⟩ := h.rd.byte (k := j) (by omega)
    injection e with e
    injection e with e1 e2
    subst e1; subst e2
    rw [Nat.zero_add] at hc
    exact (hW.cell (p := ⟨g, j, none⟩) hg).trans hc
  exact ⟨got 0 (by omega), got 1 (by omega), got 2 (by omega), got 3 (by omega)⟩

/-- what Take comes to: shut to the walk -/
def TkPost (t : Nat × Nat × List UInt8 × Nat) (k : Nat) (w : World) (e : Ending) (w' : World) : Prop :=
  ∃ A' n' c', e = .returned (.tuple #[.int .i64 (t.2.1 : Int), .slice A' n' c', .int .i64 (if t.1 = 0 then (k : Int) + t.2.2.2 else 0), .int .i64 (t.1 : Int)]) ∧ OwnB w' w.heap.size A' n' c' t.2.2.1 ∧ Up w w'
theorem TkPost.bad {r : Nat × Nat × List UInt8 × Nat} {E k : Nat} {w w' : World} (h : r = (E, 0, [], 0)) (hE : E ≠ 0) (hn : OwnB w' w.heap.size none 0 0 []) (hu : Up w w') : TkPost r k w (.returned (.tuple #[.int .i64 0, .slice none 0 0, .int .i64 0, .int .i64 (E : Int)])) w' := by
  subst h
  exact ⟨none, 0, 0, by simp [hE], hn, hu⟩

set_option maxRecDepth 100000 in
set_option maxHeartbeats 3200000 in
theorem ftake_core (A : Option Addr) (n c : Nat) (l : List UInt8) (k : Nat) (w : World) (hr : Rd w w.heap.size 1 A n (bvs l)) (hn : n ≤ 549755813888) (hc : n ≤ c) (hk : k ≤ n) :
    Calls Try.prog 25 #[.slice A n c, .int .i64 (k : Int)] w (TkPost (takeR (l.drop k)) k w) := by
  have nil0 : ∀ w0, OwnB w0 w.heap.size none 0 0 [] := fun w0 => World.ownsRow_nil _ _ _ _
  have NIL := Lib.hid nil0
  clear nil0
  have CUT := cut_from_b
  have hd := hr.bfrom (k := k) hk hc
  have HL : Hid ((l.drop k).length = n - k) := by show _ = _; have := hr.blen; rw [List.length_drop, this]
  generalize l.drop k = r at *
  have g0 : ¬ ((n : Int) < k) := by omega
  have g1 : (k : Int) ≤ n := by omega
  by_cases h8 : n - k < 8
  · have hv : takeR r = (4, 0, [], 0) := by unfold takeR; rw [if_pos (by rw [HL.out]; exact h8)]
    have HV := Lib.hid hv
    have g2 : (n : Int) - k < 8 := by omega
    clear hv
    go_enter Try.func25, Try.ntmps25
    go_wp2_with fail
    refine bodyPost_ret (v := .tuple #[.int .i64 0, .slice none 0 0, .int .i64 0, .int .i64 4]) (by simp [results, Try.results25, go_sem]) rfl ?_
    exact .bad (E := 4) HV.out (by omega) (NIL.out _) (Up.refl _)
  · have g2 : ¬ ((n : Int) - k < 8) := by omega
    have g3 : (8 : Int) ≤ (c : Int) - k := by omega
    have g4 : decide ((k : Int) < 0) = false := by simp
    have g5 : decide (((n - k : Nat) : Int) < 8) = false := by simp; omega
    have h84 := hd.bto (k := 8) (by omega)
    by_cases hE : openE (r.take 8) = 0
    · have hL : openL (r.take 8) = r.take 4 := by
        have hl8 : (r.take 8).length - 4 = 4 := by rw [List.length_take, HL.out]; omega
        unfold openL; rw [if_pos hE, hl8, List.take_take]; rfl
      have hb0 : (r.getD 0 0).toNat < 256 := (r.getD 0 0).toNat_lt
      have hb1 : (r.getD 1 0).toNat < 256 := (r.getD 1 0).toNat_lt
      have hb2 : (r.getD 2 0).toNat < 256 := (r.getD 2 0).toNat_lt
      have hb3 : (r.getD 3 0).toNat < 256 := (r.getD 3 0).toNat_lt
      have hT : takeR r = if (r.getD 0 0).toNat < 1 ∨ 100 < (r.getD 0 0).toNat ∨ 60000 < headN r then (3, 0, [], 0)
          else if r.length - 8 < headN r + 4 then (4, 0, [], 0)
          else if openE ((r.drop 8).take (headN r + 4)) ≠ 0 then (openE ((r.drop 8).take (headN r + 4)), 0, [], 0)
          else (0, (r.getD 0 0).toNat, (r.drop 8).take (headN r), headN r + 12) := by
        conv => lhs; unfold takeR
        rw [if_neg (by rw [HL.out]; exact h8), if_neg (by simpa using hE)]
      have hh : headN r = (r.getD 1 0).toNat * 65536 + (r.getD 2 0).toNat * 256 + (r.getD 3 0).toNat := rfl
      rw [hh, HL.out] at hT
      have CUT8 : ∀ W : World, (Instr.slice 28 (.slice (cutA A c k 1) (n - k) (c - k)) (some (.int .i64 8)) none none).run Try.prog W = .ok (.slice (cutA (cutA A c k 1) (c - k) 8 1) (n - k - 8) (c - k - 8)) W := fun W => cut_from_b W (cutA A c k 1) (n - k) (c - k) .i64 8 (by omega) (by omega)
      have hd8 := hd.bfrom (k := 8) (cap := c - k) (by omega) (by omega)
      have hl8 : (r.drop 8).length = n - k - 8 := by rw [List.length_drop, HL.out]
      have HE := Lib.hid hE
      have HO := Lib.hid hL
      have HT := Lib.hid hT
      have HL8 := Lib.hid hl8
      clear hL hE hT hh hl8
      go_enter Try.func25, Try.ntmps25
      go_wp2_with fail
      refine (open_any _ 8 _ (r.take 8) w h84 (by omega) (by omega)).mono ?_
      rintro e w1 ⟨A1, n1, c1, rfl, ho1, hu1⟩
      rw [HO.out] at ho1
      rw [HE.out]
      have hn1 : n1 = 4 := by have := ho1.len; rw [this, List.length_take, HL.out]; omega
      subst hn1
      obtain ⟨g, rfl, hc4⟩ := four_held ho1 rfl
      rw [take_getD r (by omega), take_getD r (by omega), take_getD r (by omega), take_getD r (by omega)] at hc4
      clear ho1
      generalize (r.getD 0 0).toNat = x0 at *
      generalize (r.getD 1 0).toNat = x1 at *
      generalize (r.getD 2 0).toNat = x2 at *
      generalize (r.getD 3 0).toNat = x3 at *
      generalize r.drop 8 = r2 at *
      obtain ⟨c0, -, -, -⟩ := hc4 w1 (Up.refl _)
      go_wp2_with fail
      have v1 : IntKind.i64.wrap (x1 : Int) = x1 := IntWalk.i64_in _ (by omega)
      have v2 : IntKind.i64.wrap (x2 : Int) = x2 := IntWalk.i64_in _ (by omega)
      have v3 : IntKind.i64.wrap (x3 : Int) = x3 := IntWalk.i64_in _ (by omega)
      have v4 : IntKind.i64.wrap ((x1 : Int) * 65536) = (x1 : Int) * 65536 := IntWalk.i64_in _ (by omega)
      have v5 : IntKind.i64.wrap ((x2 : Int) * 256) = (x2 : Int) * 256 := IntWalk.i64_in _ (by omega)
      have v6 := or_head x1 x2 x3 hb1 hb2 hb3
      have hNb : x1 * 65536 + x2 * 256 + x3 < 16777216 := by omega
      generalize hN : x1 * 65536 + x2 * 256 + x3 = N at v6 hNb
      have hT := HT.out
      rw [hN] at hT
      have HT2 := Lib.hid hT
      clear hN hT HT
      apply Rg.region_up _ (by kernel_rfl) (by kernel_rfl) hc4
      · intro QN hQN
        iterate 17 (apply Rg.RK.ok; (· intro vs w1 hS; go_simp; with_reducible rfl); (· rfl); simp only [Act.put, List.setIfInBounds_toArray, List.set_cons_zero, List.set_cons_succ, Nat.reduceAdd])
        apply Rg.RK.fin []
        intro vs w1 hK hS _
        refine hQN.out _ _ ?_
        clear hQN
        have hu2 := hu1.trans (keeps_up hK)
        clear v1 v2 v3 v4 v5 v6 hc4 c0 hS
        have fail3 : ∀ (h : x0 < 1 ∨ 100 < x0 ∨ 60000 < N), takeR r = (3, 0, [], 0) := fun h => by rw [HT2.out, if_pos h]
        have F3 := Lib.hid fail3
        clear fail3
        by_cases hx1 : x0 < 1
        · have g6 : decide ((x0 : Int) < 1) = true := by simp; omega
          go_wp2_with fail
          refine bodyPost_ret (v := .tuple #[.int .i64 0, .slice none 0 0, .int .i64 0, .int .i64 3]) (by simp [results, Try.results25, go_sem]) rfl ?_
          exact .bad (E := 3) (F3.out (.inl hx1)) (by omega) (NIL.out _) hu2
        have g6 : decide ((x0 : Int) < 1) = false := by simp; omega
        by_cases hx2 : 100 < x0
        · have g7 : decide (100 < (x0 : Int)) = true := by simp; omega
          go_wp2_with fail
          refine bodyPost_ret (v := .tuple #[.int .i64 0, .slice none 0 0, .int .i64 0, .int .i64 3]) (by simp [results, Try.results25, go_sem]) rfl ?_
          exact .bad (E := 3) (F3.out (.inr (.inl hx2))) (by omega) (NIL.out _) hu2
        have g7 : decide (100 < (x0 : Int)) = false := by simp; omega
        by_cases hx3 : 60000 < N
        · have g8 : decide (60000 < (N : Int)) = true := by simp; omega
          go_wp2_with fail
          refine bodyPost_ret (v := .tuple #[.int .i64 0, .slice none 0 0, .int .i64 0, .int .i64 3]) (by simp [results, Try.results25, go_sem]) rfl ?_
          exact .bad (E := 3) (F3.out (.inr (.inr hx3))) (by omega) (NIL.out _) hu2
        have g8 : decide (60000 < (N : Int)) = false := by simp; omega
        by_cases hx4 : n - k - 8 < N + 4
        · have hv : takeR r = (4, 0, [], 0) := by rw [HT2.out, if_neg (by omega), if_pos hx4]
          have HV := Lib.hid hv
          clear hv
          go_wp2_with fail
          refine bodyPost_ret (v := .tuple #[.int .i64 0, .slice none 0 0, .int .i64 0, .int .i64 4]) (by simp [results, Try.results25, go_sem]) rfl ?_
          exact .bad (E := 4) HV.out (by omega) (NIL.out _) hu2
        have hdt := (hd8.bto (k := N + 4) (by omega)).up hu2
        by_cases hx5 : openE (r2.take (N + 4)) = 0
        · have hv : takeR r = (0, x0, r2.take N, N + 12) := by rw [HT2.out, if_neg (by omega), if_neg (by omega), if_neg (by simpa using hx5)]
          have hL5 : openL (r2.take (N + 4)) = r2.take N := by
            have hl5 : (r2.take (N + 4)).length - 4 = N := by rw [List.length_take, HL8.out]; omega
            unfold openL; rw [if_pos hx5, hl5, List.take_take, Nat.min_eq_left (by omega)]
          have HV := Lib.hid hv
          have H5 := Lib.hid hx5
          have HL5 := Lib.hid hL5
          clear hv hx5 hL5
          go_wp2_with fail
          refine (open_any _ (N + 4) _ _ w1 hdt (by omega) (by omega)).mono ?_
          rintro e w3 ⟨A3, n3, c3, rfl, ho3, hu3⟩
          rw [H5.out]
          rw [HL5.out] at ho3
          have ho4 := own_base ho3 hu2.size
          have hu4 := hu2.trans hu3
          clear ho3 hdt hd8 hd hr h84
          go_wp2_with fail
          refine bodyPost_ret (v := .tuple #[.int .i64 (x0 : Int), .slice A3 n3 c3, .int .i64 ((k : Int) + 4 + 4 + N + 4), .int .i64 0]) (by simp [results, Try.results25, go_sem]) rfl ?_
          rw [HV.out]
          refine ⟨A3, n3, c3, ?_, ho4, hu4⟩
          have e12 : (k : Int) + 4 + 4 + N + 4 = (k : Int) + ((N + 12 : Nat) : Int) := by omega
          rw [e12]; rfl
        · have hv : takeR r = (openE (r2.take (N + 4)), 0, [], 0) := by rw [HT2.out, if_neg (by omega), if_neg (by omega), if_pos hx5]
          have HV := Lib.hid hv
          clear hv
          go_wp2_with fail
          refine (open_any _ (N + 4) _ _ w1 hdt (by omega) (by omega)).mono ?_
          rintro e w3 ⟨A3, n3, c3, rfl, ho3, hu3⟩
          generalize openE (r2.take (N + 4)) = E5 at *
          have hE5 : ¬ (E5 : Int) = 0 := by omega
          have hu4 := hu2.trans hu3
          clear ho3 hdt hd8 hd hr h84
          go_wp2_with fail
          refine bodyPost_ret (v := .tuple #[.int .i64 0, .slice none 0 0, .int .i64 0, .int .i64 (E5 : Int)]) (by simp [results, Try.results25, go_sem]) rfl ?_
          exact .bad HV.out hx5 (NIL.out _) hu4
      · kernel_rfl
    · have hv : takeR r = (openE (r.take 8), 0, [], 0) := by unfold takeR; rw [if_neg (by rw [HL.out]; exact h8), if_pos hE]
      have HV := Lib.hid hv
      clear hv
      go_enter Try.func25, Try.ntmps25
      go_wp2_with fail
      refine (open_any _ 8 _ (r.take 8) w h84 (by omega) (by omega)).mono ?_
      rintro e w1 ⟨A1, n1, c1, rfl, ho1, hu1⟩
      generalize openE (r.take 8) = E5 at *
      have hE5 : ¬ (E5 : Int) = 0 := by omega
      clear ho1 h84 hd hr
      go_wp2_with fail
      refine bodyPost_ret (v := .tuple #[.int .i64 0, .slice none 0 0, .int .i64 0, .int .i64 (E5 : Int)]) (by simp [results, Try.results25, go_sem]) rfl ?_
      exact .bad HV.out hE (NIL.out _) hu1

set_option maxRecDepth 100000 in
set_option maxHeartbeats 1600000 in
theorem ftake_any (A : Option Addr) (n c : Nat) (l : List UInt8) (at_ : Int) (w : World) (hr : Rd w w.heap.size 1 A n (bvs l)) (hn : n ≤ 549755813888) (hc : n ≤ c) :
    Calls Try.prog 25 #[.slice A n c, .int .i64 at_] w fun e w' => ∃ A' n' c', e = .returned (.tuple #[.int .i64 ((takeF l at_).2.1 : Int), .slice A' n' c', .int .i64 (takeF l at_).2.2.2, .int .i64 ((takeF l at_).1 : Int)]) ∧ OwnB w' w.heap.size A' n' c' (takeF l at_).2.2.1 ∧ Up w w' := by
  have hl := hr.blen
  by_cases h0 : at_ < 0 ∨ (n : Int) < at_
  · have hv : takeF l at_ = (1, 0, [], 0) := by unfold takeF; rw [if_pos (by rw [← hl]; exact h0)]
    have HV := Lib.hid hv
    clear hv
    rcases h0 with h0 | h0
    · go_enter Try.func25, Try.ntmps25
      go_wp2_with fail
      refine bodyPost_ret (v := .tuple #[.int .i64 0, .slice none 0 0, .int .i64 0, .int .i64 1]) (by simp [results, Try.results25, go_sem]) rfl ?_
      rw [HV.out]
      exact ⟨none, 0, 0, rfl, World.ownsRow_nil _ _ _ _, Up.refl _⟩
    · have h1 : ¬ at_ < 0 := by omega
      have hd1 : decide (at_ < 0) = false := by simp; omega
      go_enter Try.func25, Try.ntmps25
      go_wp2_with fail
      refine bodyPost_ret (v := .tuple #[.int .i64 0, .slice none 0 0, .int .i64 0, .int .i64 1]) (by simp [results, Try.results25, go_sem]) rfl ?_
      rw [HV.out]
      exact ⟨none, 0, 0, rfl, World.ownsRow_nil _ _ _ _, Up.refl _⟩
  · obtain ⟨k, rfl⟩ := Int.eq_ofNat_of_zero_le (show 0 ≤ at_ by omega)
    have hv : takeF l (k : Int) = ((takeR (l.drop k)).1, (takeR (l.drop k)).2.1, (takeR (l.drop k)).2.2.1, if (takeR (l.drop k)).1 = 0 then (k : Int) + (takeR (l.drop k)).2.2.2 else 0) := by
      unfold takeF; rw [if_neg (by rw [← hl]; exact h0)]; rfl
    refine (ftake_core A n c l k w hr hn hc (by omega)).mono ?_
    rintro e w' ⟨A', n', c', rfl, ho, hu⟩
    rw [hv]
    exact ⟨A', n', c', rfl, ho, hu⟩
end Go.Proofs.Ytnbdijifhimogaa
