/-
  Texts of this claim, joined: FrameW6, FrameW8, FrameW7, FrameW10, BlkW3, BlkRows, BlkCut, RegionIn, BlkCut2, BlkW4, Store, StoreI, BlkW5, Rw, ItemLaw, FrameLaw, BlkLaw, OpenE, OpenR, FrameW9, FrameLaw2.
-/
import Derived.IntWalk
import Derived.RangeFuncNested
import Derived.RangeFuncBound
import Derived.RangeFuncCalls
import Derived.RangeFuncLeaves
import Derived.RangeFuncFrom
import Derived.RangeFuncBox
import Derived.Shelf.Abstract
import Derived.Shelf.RegionOpen
import Derived.WalkKit
import Derived.OwnWalkIn
import Derived.TacticsInMore
import Derived.LoopNIn
import Derived.LoopIn
import Derived.RangeFuncOwn
import Derived.ControlIn
import Derived.Lib.SliceRun
import Derived.Laws.Tables
import Derived.Deep.Slices
import Derived.Deep.Fields
import Derived.Test.YtfmjgkfblejknaaGreatZ2
/-
  The walk of frame.Take.
-/
namespace Go.Proofs.YtfmjgkfblejknaaGreat
open Go.RowKit
set_option linter.unusedVariables false
set_option linter.unusedSimpArgs false

/-- the length that a head tells -/
def headN (h : List UInt8) : Nat := (h.getD 1 0).toNat * 65536 + (h.getD 2 0).toNat * 256 + (h.getD 3 0).toNat
/-- what stands at the beginning of r: the error, the kind, the body, how many bytes -/
def takeR (r : List UInt8) : Nat × Nat × List UInt8 × Nat :=
  if r.length < 8 then (4, 0, [], 0)
  else if openE (r.take 8) ≠ 0 then (openE (r.take 8), 0, [], 0)
  else if (r.getD 0 0).toNat < 1 ∨ 100 < (r.getD 0 0).toNat ∨ 60000 < headN r then (3, 0, [], 0)
  else if r.length - 8 < headN r + 4 then (4, 0, [], 0)
  else if openE ((r.drop 8).take (headN r + 4)) ≠ 0 then (openE ((r.drop 8).take (headN r + 4)), 0, [], 0)
  else (0, (r.getD 0 0).toNat, (r.drop 8).take (headN r), headN r + 12)
/-- Take: the error, the kind, the body, where it ends -/
def takeF (l : List UInt8) (at_ : Int) : Nat × Nat × List UInt8 × Int :=
  if at_ < 0 ∨ (l.length : Int) < at_ then (1, 0, [], 0)
  else ((takeR (l.drop at_.toNat)).1, (takeR (l.drop at_.toNat)).2.1, (takeR (l.drop at_.toNat)).2.2.1, if (takeR (l.drop at_.toNat)).1 = 0 then at_ + (takeR (l.drop at_.toNat)).2.2.2 else 0)

theorem i64_or (a b : Nat) (ha : a < 4611686018427387904) (hb : b < 4611686018427387904) : bits .or .i64 (a : Int) (b : Int) = ((a ||| b : Nat) : Int) := by
  have hlt : a ||| b < 2 ^ 62 := Nat.or_lt_two_pow ha hb
  show IntKind.i64.wrap ((BitVec.ofInt 64 (a : Int) ||| BitVec.ofInt 64 (b : Int)).toNat : Int) = _
  rw [BitVec.toNat_or, BitVec.ofInt_natCast, BitVec.ofInt_natCast, BitVec.toNat_ofNat, BitVec.toNat_ofNat, Nat.mod_eq_of_lt (by omega), Nat.mod_eq_of_lt (by omega), IntKind.wrap_i64]
  omega
/-- the bytes of a length put together -/
theorem or_head (x1 x2 x3 : Nat) (h1 : x1 < 256) (h2 : x2 < 256) (h3 : x3 < 256) : bits .or .i64 (bits .or .i64 ((x1 : Int) * 65536) ((x2 : Int) * 256)) (x3 : Int) = ((x1 * 65536 + x2 * 256 + x3 : Nat) : Int) := by
  have e1 : (x1 : Int) * 65536 = ((x1 * 65536 : Nat) : Int) := by omega
  have e2 : (x2 : Int) * 256 = ((x2 * 256 : Nat) : Int) := by omega
  have a1 : x1 * 65536 ||| x2 * 256 = x1 * 65536 + x2 * 256 := by
    have := Nat.two_pow_add_eq_or_of_lt (i := 16) (b := x2 * 256) (by omega) x1
    rw [show 2 ^ 16 = 65536 from rfl, Nat.mul_comm 65536] at this
    exact this.symm
  have a2 : (x1 * 65536 + x2 * 256) ||| x3 = x1 * 65536 + x2 * 256 + x3 := by
    have := Nat.two_pow_add_eq_or_of_lt (i := 8) (b := x3) (by omega) (x1 * 256 + x2)
    rw [show 2 ^ 8 * (x1 * 256 + x2) = x1 * 65536 + x2 * 256 by omega] at this
    exact this.symm
  rw [e1, e2, i64_or _ _ (by omega) (by omega), a1, i64_or _ _ (by omega) (by omega), a2]
theorem take_getD (r : List UInt8) {k j : Nat} (h : j < k) : (r.take k).getD j 0 = r.getD j 0 := by
  simp only [List.getD_eq_getElem?_getD, List.getElem?_take, if_pos h]
/-- the four bytes of a head, in whatever grows out of that world -/
theorem four_held {w : World} {base n c : Nat} {A : Option Addr} {l : List UInt8} (h : OwnB w base A n c l) (hn : n = 4) : ∃ g, A = some ⟨g, 0, none⟩ ∧ ∀ W, Up w W →
    W.cell? ⟨g, 0, none⟩ = some (.int .u8 ((l.getD 0 0).toNat : Int)) ∧ W.cell? ⟨g, 1, none⟩ = some (.int .u8 ((l.getD 1 0).toNat : Int)) ∧ W.cell? ⟨g, 2, none⟩ = some (.int .u8 ((l.getD 2 0).toNat : Int)) ∧ W.cell? ⟨g, 3, none⟩ = some (.int .u8 ((l.getD 3 0).toNat : Int)) := by
  obtain ⟨g, rfl, _, hg⟩ := own_some h (by omega)
  refine ⟨g, rfl, fun W hW => ?_⟩
  have got : ∀ j, j < 4 → W.cell? ⟨g, j, none⟩ = some (.int .u8 ((l.getD j 0).toNat : Int)) := fun j hj => by
    obtain ⟨b, o, e, hb, hc⟩ := h.rd.byte (k := j) (by omega)
    injection e with e
    injection e with e1 e2
    subst e1; subst e2
    rw [Nat.zero_add] at hc
    exact (hW.cell (p := ⟨g, j, none⟩) hg).trans hc
  exact ⟨got 0 (by omega), got 1 (by omega), got 2 (by omega), got 3 (by omega)⟩

/-- what Take comes to: shut to the walk -/
def TkPost (t : Nat × Nat × List UInt8 × Nat) (k : Nat) (w : World) (e : Ending) (w' : World) : Prop :=
  ∃ A' n' c', e = .returned (.tuple #[.int .i64 (t.2.1 : Int), .slice A' n' c', .int .i64 (if t.1 = 0 then (k : Int) + t.2.2.2 else 0), .int .i64 (t.1 : Int)]) ∧ OwnB w' w.heap.size A' n' c' t.2.2.1 ∧ Up w w'
theorem TkPost.bad {r : Nat × Nat × List UInt8 × Nat} {E k : Nat} {w w' : World} (h : r = (E, 0, [], 0)) (hE : E ≠ 0) (hn : OwnB w' w.heap.size none 0 0 []) (hu : Up w w') : TkPost r k w (.returned (.tuple #[.int .i64 0, .slice none 0 0, .int .i64 0, .int .i64 (E : Int)])) w' := by
  subst h
  exact ⟨none, 0, 0, by simp [hE], hn, hu⟩

set_option maxRecDepth 100000 in
set_option maxHeartbeats 3200000 in
theorem ftake_core (A : Option Addr) (n c : Nat) (l : List UInt8) (k : Nat) (w : World) (hr : Rd w w.heap.size 1 A n (bvs l)) (hn : n ≤ 549755813888) (hc : n ≤ c) (hk : k ≤ n) :
    Calls Tryz.prog 62 #[.slice A n c, .int .i64 (k : Int)] w (TkPost (takeR (l.drop k)) k w) := by
  have nil0 : ∀ w0, OwnB w0 w.heap.size none 0 0 [] := fun w0 => World.ownsRow_nil _ _ _ _
  have NIL := Lib.hid nil0
  clear nil0
  have CUT := cut_from_b
  have hd := hr.bfrom (k := k) hk hc
  have HL : Hid ((l.drop k).length = n - k) := by show _ = _; have := hr.blen; rw [List.length_drop, this]
  generalize l.drop k = r at *
  have g0 : ¬ ((n : Int) < k) := by omega
  have g1 : (k : Int) ≤ n := by omega
  by_cases h8 : n - k < 8
  · have hv : takeR r = (4, 0, [], 0) := by unfold takeR; rw [if_pos (by rw [HL.out]; exact h8)]
    have HV := Lib.hid hv
    have g2 : (n : Int) - k < 8 := by omega
    clear hv
    go_enter Tryz.func62, Tryz.ntmps62
    go_wp2_with fail
    refine bodyPost_ret (v := .tuple #[.int .i64 0, .slice none 0 0, .int .i64 0, .int .i64 4]) (by simp [results, Tryz.results62, go_sem]) rfl ?_
    exact .bad (E := 4) HV.out (by omega) (NIL.out _) (Up.refl _)
  · have g2 : ¬ ((n : Int) - k < 8) := by omega
    have g3 : (8 : Int) ≤ (c : Int) - k := by omega
    have g4 : decide ((k : Int) < 0) = false := by simp
    have g5 : decide (((n - k : Nat) : Int) < 8) = false := by simp; omega
    have h84 := hd.bto (k := 8) (by omega)
    by_cases hE : openE (r.take 8) = 0
    · have hL : openL (r.take 8) = r.take 4 := by
        have hl8 : (r.take 8).length - 4 = 4 := by rw [List.length_take, HL.out]; omega
        unfold openL; rw [if_pos hE, hl8, List.take_take]; rfl
      have hb0 : (r.getD 0 0).toNat < 256 := (r.getD 0 0).toNat_lt
      have hb1 : (r.getD 1 0).toNat < 256 := (r.getD 1 0).toNat_lt
      have hb2 : (r.getD 2 0).toNat < 256 := (r.getD 2 0).toNat_lt
      have hb3 : (r.getD 3 0).toNat < 256 := (r.getD 3 0).toNat_lt
      have hT : takeR r = if (r.getD 0 0).toNat < 1 ∨ 100 < (r.getD 0 0).toNat ∨ 60000 < headN r then (3, 0, [], 0)
          else if r.length - 8 < headN r + 4 then (4, 0, [], 0)
          else if openE ((r.drop 8).take (headN r + 4)) ≠ 0 then (openE ((r.drop 8).take (headN r + 4)), 0, [], 0)
          else (0, (r.getD 0 0).toNat, (r.drop 8).take (headN r), headN r + 12) := by
        conv => lhs; unfold takeR
        rw [if_neg (by rw [HL.out]; exact h8), if_neg (by simpa using hE)]
      have hh : headN r = (r.getD 1 0).toNat * 65536 + (r.getD 2 0).toNat * 256 + (r.getD 3 0).toNat := rfl
      rw [hh, HL.out] at hT
      have CUT8 : ∀ W : World, (Instr.slice 22 (.slice (cutA A c k 1) (n - k) (c - k)) (some (.int .i64 8)) none none).run Tryz.prog W = .ok (.slice (cutA (cutA A c k 1) (c - k) 8 1) (n - k - 8) (c - k - 8)) W := fun W => cut_from_b W (cutA A c k 1) (n - k) (c - k) .i64 8 (by omega) (by omega)
      have hd8 := hd.bfrom (k := 8) (cap := c - k) (by omega) (by omega)
      have hl8 : (r.drop 8).length = n - k - 8 := by rw [List.length_drop, HL.out]
      have HE := Lib.hid hE
      have HO := Lib.hid hL
      have HT := Lib.hid hT
      have HL8 := Lib.hid hl8
      clear hL hE hT hh hl8
      go_enter Tryz.func62, Tryz.ntmps62
      go_wp2_with fail
      refine (open_any _ 8 _ (r.take 8) w h84 (by omega) (by omega)).mono ?_
      rintro e w1 ⟨A1, n1, c1, rfl, ho1, hu1⟩
      rw [HO.out] at ho1
      rw [HE.out]
      have hn1 : n1 = 4 := by have := ho1.len; rw [this, List.length_take, HL.out]; omega
      subst hn1
      obtain ⟨g, rfl, hc4⟩ := four_held ho1 rfl
      rw [take_getD r (by omega), take_getD r (by omega), take_getD r (by omega), take_getD r (by omega)] at hc4
      clear ho1
      generalize (r.getD 0 0).toNat = x0 at *
      generalize (r.getD 1 0).toNat = x1 at *
      generalize (r.getD 2 0).toNat = x2 at *
      generalize (r.getD 3 0).toNat = x3 at *
      generalize r.drop 8 = r2 at *
      obtain ⟨c0, -, -, -⟩ := hc4 w1 (Up.refl _)
      go_wp2_with fail
      have v1 : IntKind.i64.wrap (x1 : Int) = x1 := IntWalk.i64_in _ (by omega)
      have v2 : IntKind.i64.wrap (x2 : Int) = x2 := IntWalk.i64_in _ (by omega)
      have v3 : IntKind.i64.wrap (x3 : Int) = x3 := IntWalk.i64_in _ (by omega)
      have v4 : IntKind.i64.wrap ((x1 : Int) * 65536) = (x1 : Int) * 65536 := IntWalk.i64_in _ (by omega)
      have v5 : IntKind.i64.wrap ((x2 : Int) * 256) = (x2 : Int) * 256 := IntWalk.i64_in _ (by omega)
      have v6 := or_head x1 x2 x3 hb1 hb2 hb3
      have hNb : x1 * 65536 + x2 * 256 + x3 < 16777216 := by omega
      generalize hN : x1 * 65536 + x2 * 256 + x3 = N at v6 hNb
      have hT := HT.out
      rw [hN] at hT
      have HT2 := Lib.hid hT
      clear hN hT HT
      apply Rg.region_up _ (by kernel_rfl) (by kernel_rfl) hc4
      · intro QN hQN
        iterate 17 (apply Rg.RK.ok; (· intro vs w1 hS; go_simp; with_reducible rfl); (· rfl); simp only [Act.put, List.setIfInBounds_toArray, List.set_cons_zero, List.set_cons_succ, Nat.reduceAdd])
        apply Rg.RK.fin []
        intro vs w1 hK hS _
        refine hQN.out _ _ ?_
        clear hQN
        have hu2 := hu1.trans (keeps_up hK)
        clear v1 v2 v3 v4 v5 v6 hc4 c0 hS
        have fail3 : ∀ (h : x0 < 1 ∨ 100 < x0 ∨ 60000 < N), takeR r = (3, 0, [], 0) := fun h => by rw [HT2.out, if_pos h]
        have F3 := Lib.hid fail3
        clear fail3
        by_cases hx1 : x0 < 1
        · have g6 : decide ((x0 : Int) < 1) = true := by simp; omega
          go_wp2_with fail
          refine bodyPost_ret (v := .tuple #[.int .i64 0, .slice none 0 0, .int .i64 0, .int .i64 3]) (by simp [results, Tryz.results62, go_sem]) rfl ?_
          exact .bad (E := 3) (F3.out (.inl hx1)) (by omega) (NIL.out _) hu2
        have g6 : decide ((x0 : Int) < 1) = false := by simp; omega
        by_cases hx2 : 100 < x0
        · have g7 : decide (100 < (x0 : Int)) = true := by simp; omega
          go_wp2_with fail
          refine bodyPost_ret (v := .tuple #[.int .i64 0, .slice none 0 0, .int .i64 0, .int .i64 3]) (by simp [results, Tryz.results62, go_sem]) rfl ?_
          exact .bad (E := 3) (F3.out (.inr (.inl hx2))) (by omega) (NIL.out _) hu2
        have g7 : decide (100 < (x0 : Int)) = false := by simp; omega
        by_cases hx3 : 60000 < N
        · have g8 : decide (60000 < (N : Int)) = true := by simp; omega
          go_wp2_with fail
          refine bodyPost_ret (v := .tuple #[.int .i64 0, .slice none 0 0, .int .i64 0, .int .i64 3]) (by simp [results, Tryz.results62, go_sem]) rfl ?_
          exact .bad (E := 3) (F3.out (.inr (.inr hx3))) (by omega) (NIL.out _) hu2
        have g8 : decide (60000 < (N : Int)) = false := by simp; omega
        by_cases hx4 : n - k - 8 < N + 4
        · have hv : takeR r = (4, 0, [], 0) := by rw [HT2.out, if_neg (by omega), if_pos hx4]
          have HV := Lib.hid hv
          clear hv
          go_wp2_with fail
          refine bodyPost_ret (v := .tuple #[.int .i64 0, .slice none 0 0, .int .i64 0, .int .i64 4]) (by simp [results, Tryz.results62, go_sem]) rfl ?_
          exact .bad (E := 4) HV.out (by omega) (NIL.out _) hu2
        have hdt := (hd8.bto (k := N + 4) (by omega)).up hu2
        by_cases hx5 : openE (r2.take (N + 4)) = 0
        · have hv : takeR r = (0, x0, r2.take N, N + 12) := by rw [HT2.out, if_neg (by omega), if_neg (by omega), if_neg (by simpa using hx5)]
          have hL5 : openL (r2.take (N + 4)) = r2.take N := by
            have hl5 : (r2.take (N + 4)).length - 4 = N := by rw [List.length_take, HL8.out]; omega
            unfold openL; rw [if_pos hx5, hl5, List.take_take, Nat.min_eq_left (by omega)]
          have HV := Lib.hid hv
          have H5 := Lib.hid hx5
          have HL5 := Lib.hid hL5
          clear hv hx5 hL5
          go_wp2_with fail
          refine (open_any _ (N + 4) _ _ w1 hdt (by omega) (by omega)).mono ?_
          rintro e w3 ⟨A3, n3, c3, rfl, ho3, hu3⟩
          rw [H5.out]
          rw [HL5.out] at ho3
          have ho4 := own_base ho3 hu2.size
          have hu4 := hu2.trans hu3
          clear ho3 hdt hd8 hd hr h84
          go_wp2_with fail
          refine bodyPost_ret (v := .tuple #[.int .i64 (x0 : Int), .slice A3 n3 c3, .int .i64 ((k : Int) + 4 + 4 + N + 4), .int .i64 0]) (by simp [results, Tryz.results62, go_sem]) rfl ?_
          rw [HV.out]
          refine ⟨A3, n3, c3, ?_, ho4, hu4⟩
          have e12 : (k : Int) + 4 + 4 + N + 4 = (k : Int) + ((N + 12 : Nat) : Int) := by omega
          rw [e12]; rfl
        · have hv : takeR r = (openE (r2.take (N + 4)), 0, [], 0) := by rw [HT2.out, if_neg (by omega), if_neg (by omega), if_pos hx5]
          have HV := Lib.hid hv
          clear hv
          go_wp2_with fail
          refine (open_any _ (N + 4) _ _ w1 hdt (by omega) (by omega)).mono ?_
          rintro e w3 ⟨A3, n3, c3, rfl, ho3, hu3⟩
          generalize openE (r2.take (N + 4)) = E5 at *
          have hE5 : ¬ (E5 : Int) = 0 := by omega
          have hu4 := hu2.trans hu3
          clear ho3 hdt hd8 hd hr h84
          go_wp2_with fail
          refine bodyPost_ret (v := .tuple #[.int .i64 0, .slice none 0 0, .int .i64 0, .int .i64 (E5 : Int)]) (by simp [results, Tryz.results62, go_sem]) rfl ?_
          exact .bad HV.out hx5 (NIL.out _) hu4
      · kernel_rfl
    · have hv : takeR r = (openE (r.take 8), 0, [], 0) := by unfold takeR; rw [if_neg (by rw [HL.out]; exact h8), if_pos hE]
      have HV := Lib.hid hv
      clear hv
      go_enter Tryz.func62, Tryz.ntmps62
      go_wp2_with fail
      refine (open_any _ 8 _ (r.take 8) w h84 (by omega) (by omega)).mono ?_
      rintro e w1 ⟨A1, n1, c1, rfl, ho1, hu1⟩
      generalize openE (r.take 8) = E5 at *
      have hE5 : ¬ (E5 : Int) = 0 := by omega
      clear ho1 h84 hd hr
      go_wp2_with fail
      refine bodyPost_ret (v := .tuple #[.int .i64 0, .slice none 0 0, .int .i64 0, .int .i64 (E5 : Int)]) (by simp [results, Tryz.results62, go_sem]) rfl ?_
      exact .bad HV.out hE (NIL.out _) hu1

set_option maxRecDepth 100000 in
set_option maxHeartbeats 1600000 in
theorem ftake_any (A : Option Addr) (n c : Nat) (l : List UInt8) (at_ : Int) (w : World) (hr : Rd w w.heap.size 1 A n (bvs l)) (hn : n ≤ 549755813888) (hc : n ≤ c) :
    Calls Tryz.prog 62 #[.slice A n c, .int .i64 at_] w fun e w' => ∃ A' n' c', e = .returned (.tuple #[.int .i64 ((takeF l at_).2.1 : Int), .slice A' n' c', .int .i64 (takeF l at_).2.2.2, .int .i64 ((takeF l at_).1 : Int)]) ∧ OwnB w' w.heap.size A' n' c' (takeF l at_).2.2.1 ∧ Up w w' := by
  have hl := hr.blen
  by_cases h0 : at_ < 0 ∨ (n : Int) < at_
  · have hv : takeF l at_ = (1, 0, [], 0) := by unfold takeF; rw [if_pos (by rw [← hl]; exact h0)]
    have HV := Lib.hid hv
    clear hv
    rcases h0 with h0 | h0
    · go_enter Tryz.func62, Tryz.ntmps62
      go_wp2_with fail
      refine bodyPost_ret (v := .tuple #[.int .i64 0, .slice none 0 0, .int .i64 0, .int .i64 1]) (by simp [results, Tryz.results62, go_sem]) rfl ?_
      rw [HV.out]
      exact ⟨none, 0, 0, rfl, World.ownsRow_nil _ _ _ _, Up.refl _⟩
    · have h1 : ¬ at_ < 0 := by omega
      have hd1 : decide (at_ < 0) = false := by simp; omega
      go_enter Tryz.func62, Tryz.ntmps62
      go_wp2_with fail
      refine bodyPost_ret (v := .tuple #[.int .i64 0, .slice none 0 0, .int .i64 0, .int .i64 1]) (by simp [results, Tryz.results62, go_sem]) rfl ?_
      rw [HV.out]
      exact ⟨none, 0, 0, rfl, World.ownsRow_nil _ _ _ _, Up.refl _⟩
  · obtain ⟨k, rfl⟩ := Int.eq_ofNat_of_zero_le (show 0 ≤ at_ by omega)
    have hv : takeF l (k : Int) = ((takeR (l.drop k)).1, (takeR (l.drop k)).2.1, (takeR (l.drop k)).2.2.1, if (takeR (l.drop k)).1 = 0 then (k : Int) + (takeR (l.drop k)).2.2.2 else 0) := by
      unfold takeF; rw [if_neg (by rw [← hl]; exact h0)]; rfl
    refine (ftake_core A n c l k w hr hn hc (by omega)).mono ?_
    rintro e w' ⟨A', n', c', rfl, ho, hu⟩
    rw [hv]
    exact ⟨A', n', c', rfl, ho, hu⟩
end Go.Proofs.YtfmjgkfblejknaaGreat

/-
  The walks of the document's answers for sums and frames: Sum, Seal, Open, FrameOk, Frame.
-/
namespace Go.Proofs.YtfmjgkfblejknaaGreat
open Go.RowKit
set_option linter.unusedVariables false
set_option linter.unusedSimpArgs false

theorem u32_xor_poly (z : Nat) (hz : z < 4294967296) : bits .xor .u32 ((z : Int) / 2) 2197175160 = (((z / 2) ^^^ 2197175160 : Nat) : Int) := by
  rw [show (z : Int) / 2 = ((z / 2 : Nat) : Int) by omega, show (2197175160 : Int) = ((2197175160 : Nat) : Int) from rfl, u32_xor_nat _ _ (by omega) (by omega)]

set_option maxRecDepth 100000 in
set_option maxHeartbeats 1600000 in
theorem rsum_any (l : List UInt8) (w : World) (hn : l.length ≤ 9223372036854775807) :
    Calls Tryz.prog 84 #[.string (tx l)] w fun e w' => e = .returned (.int .u32 (sumC l : Int)) ∧ w = w' := by
  have hs := tx_list l
  have hsz : (tx l).size ≤ 9223372036854775807 := by rw [tx_size]; exact hn
  have HS := Lib.hid hs
  have HL := Lib.hid (tx_size l)
  clear hs
  generalize tx l = s at *
  go_enter Tryz.func84, Tryz.ntmps84
  go_wp2_with fail
  go_loop [3, 4, 5] (fun q i _ => ∃ (k : Nat) (x : Nat), i = .int .i64 (k : Int) ∧ q = .int .u32 (x : Int) ∧ x < 4294967296 ∧ k ≤ s.size ∧ Hid (addC 4294967295 (l.take k) = x)) (fun _ i _ => s.size - (intOf i).toNat)
  case atStart => exact ⟨0, 4294967295, rfl, rfl, by omega, by omega, rfl⟩
  case round =>
    obtain ⟨k, x, rfl, rfl, hx, hk, hH⟩ := hrel
    by_cases hlt : k < s.size
    · have hgd := getD_str HS.out hlt
      have hq : l.take (k + 1) = l.take k ++ [l.getD k 0] := by
        have : k < l.length := by have := HL.out; omega
        rw [List.take_succ_eq_append_getElem this]; simp [List.getD, this]
      generalize l.getD k 0 = b0 at hgd hq
      have hxb : bits .xor .u32 (x : Int) (b0.toNat : Int) = ((x ^^^ b0.toNat : Nat) : Int) := by
        have := b0.toNat_lt
        rw [u32_xor_nat _ _ hx (by omega)]
      have hb256 := b0.toNat_lt
      have HQ := Lib.hid hq
      have hx0 := xorB_lt b0 hx
      clear hq
      go_wp2_with fail
      clear hxb
      generalize hz0 : x ^^^ b0.toNat = z0 at *
      have HZ := Lib.hid hz0
      clear hz0
      go_loop [3, 5] (fun q j => ∃ (z : Nat) (jj : Nat), j = .int .i64 (jj : Int) ∧ q = .int .u32 (z : Int) ∧ z < 4294967296 ∧ jj ≤ 8 ∧ Hid (crcN (8 - jj) z = crcN 8 z0)) (fun _ j => 8 - (intOf j).toNat)
      case atStart => exact ⟨z0, 0, rfl, rfl, hx0, by omega, rfl⟩
      case round =>
        obtain ⟨z, jj, rfl, rfl, hz, hj, hcz⟩ := hrel
        by_cases hlt2 : jj < 8
        · have ha := u32_and_one z hz
          have hp := u32_xor_poly z hz
          have hsl := crcS_lt hz
          by_cases hodd : z % 2 = 1
          · rw [hodd] at ha
            have hcs : crcS z = (z / 2) ^^^ 2197175160 := by unfold crcS; rw [if_pos hodd]
            rw [← hcs] at hp
            have hcz2 : crcN (8 - (jj + 1)) (crcS z) = crcN 8 z0 := by rw [← hcz.out, show 8 - jj = (8 - (jj + 1)) + 1 by omega]; rfl
            have HC := Lib.hid hcz2
            clear hcz2 hcs
            generalize crcS z = y at *
            go_wp2_with fail
            go_round
            case rel => exact ⟨y, jj + 1, by go_num, rfl, hsl, by omega, HC.out⟩
            case measure => simp [intOf]; omega
          · have h0 : z % 2 = 0 := by omega
            rw [h0] at ha
            have hcs : crcS z = z / 2 := by unfold crcS; rw [if_neg hodd]
            have hcz2 : crcN (8 - (jj + 1)) (z / 2) = crcN 8 z0 := by rw [← hcz.out, show 8 - jj = (8 - (jj + 1)) + 1 by omega, ← hcs]; rfl
            have HC := Lib.hid hcz2
            clear hcz2 hcs hp
            go_wp2_with fail
            go_round
            case rel => exact ⟨z / 2, jj + 1, by go_num, by go_num, by omega, by omega, HC.out⟩
            case measure => simp [intOf]; omega
        · have h8 : jj = 8 := by omega
          subst h8
          go_wp2_with fail
          go_round
          case rel =>
            refine ⟨k + 1, z, by go_num, rfl, hz, by omega, ?_⟩
            show _ = _
            rw [HQ.out, addC_append, hH.out]
            show crcN 8 (x ^^^ b0.toNat) = z
            rw [HZ.out, ← hcz.out]; rfl
          case measure => simp [intOf]; omega
    · have hk' : k = l.length := by have := HL.out; omega
      rw [hk', List.take_of_length_le (Nat.le_refl _)] at hH
      have hnot := u32_not x hx
      have hv : sumC l = 4294967295 - x := by unfold sumC; rw [hH.out]
      have HV := Lib.hid hv
      clear hv
      go_wp2_with fail
      go_ret
      rw [HV.out]
      exact ⟨rfl, rfl⟩

theorem four_str (x0 x1 x2 x3 : Value) (l : List UInt8) (hl : [x0, x1, x2, x3] = bvs l) (W : World) (g : Nat) (h0 : W.cell? ⟨g, 0, none⟩ = some x0) (h1 : W.cell? ⟨g, 1, none⟩ = some x1) (h2 : W.cell? ⟨g, 2, none⟩ = some x2) (h3 : W.cell? ⟨g, 3, none⟩ = some x3) :
    (convert 22 9 (.slice (some ⟨g, 0, none⟩) 4 4)).run Tryz.prog W = .ok (.string (tx l)) W := by
  refine run_str (B := g + 1) 4 ⟨by rw [← hl]; rfl, fun _ => ⟨g, 0, rfl, by omega, fun j u hj => ?_⟩⟩
  rw [← hl] at hj
  match j with
  | 0 => simp at hj; rw [← hj, Nat.zero_add, h0]
  | 1 => simp at hj; rw [← hj, Nat.zero_add, h1]
  | 2 => simp at hj; rw [← hj, Nat.zero_add, h2]
  | 3 => simp at hj; rw [← hj, Nat.zero_add, h3]
  | j + 4 => simp at hj
theorem sumB_v (y : Nat) (hy : y < 4294967296) : ([.int .u8 ((y : Int) % 256), .int .u8 ((y : Int) / 256 % 256), .int .u8 ((y : Int) / 65536 % 256), .int .u8 ((y : Int) / 16777216)] : List Value) = bvs (sumB y) := by
  have e1 : (y : Int) % 256 = ((y % 256 : Nat) : Int) := by omega
  have e2 : (y : Int) / 256 % 256 = ((y / 256 % 256 : Nat) : Int) := by omega
  have e3 : (y : Int) / 65536 % 256 = ((y / 65536 % 256 : Nat) : Int) := by omega
  have e4 : (y : Int) / 16777216 = ((y / 16777216 % 256 : Nat) : Int) := by omega
  simp only [bvs, sumB, List.map_cons, List.map_nil, bv_ofNat, e1, e2, e3, e4]

set_option maxRecDepth 100000 in
set_option maxHeartbeats 1600000 in
theorem rseal_any (l : List UInt8) (w : World) (hn : l.length ≤ 1099511627776) :
    Calls Tryz.prog 60 #[.string (tx l)] w fun e w' => e = .returned (.string (tx (sealB l))) ∧ Up w w' := by
  have hy := sumC_lt l
  have hb := sumB_v (sumC l) hy
  have hv : tx l ++ tx (sumB (sumC l)) = tx (sealB l) := tx_append' _ _
  have hz1 := tx_size l
  have hz2 := tx_size (sumB (sumC l))
  have hsl := sumB_len (sumC l)
  have hsz : ¬ (9223372036854775807 < (tx l).size + (tx (sumB (sumC l))).size) := by omega
  have FS := four_str _ _ _ _ _ hb
  have HV := Lib.hid hv
  clear hb hz1 hz2 hsl hv
  go_enter Tryz.func60, Tryz.ntmps60
  go_wp2_with fail
  refine (rsum_any l w (by omega)).mono ?_
  rintro e w1 ⟨rfl, rfl⟩
  generalize sumC l = y at *
  have hc : ∀ j, (w.alloc (.cells #[.int .u8 ((y : Int) % 256), .int .u8 ((y : Int) / 256 % 256), .int .u8 ((y : Int) / 65536 % 256), .int .u8 ((y : Int) / 16777216)] 5)).cell? ⟨w.heap.size, j, none⟩ = #[Value.int .u8 ((y : Int) % 256), .int .u8 ((y : Int) / 256 % 256), .int .u8 ((y : Int) / 65536 % 256), .int .u8 ((y : Int) / 16777216)][j]? := fun j => World.cell?_alloc_at _ _ _ _ rfl
  have FS1 := FS _ _ (hc 0) (hc 1) (hc 2) (hc 3)
  clear FS hc
  go_wp2_with fail
  go_ret
  rw [HV.out]
  exact ⟨rfl, (Up.refl _).alloc _⟩



set_option maxRecDepth 100000 in
set_option maxHeartbeats 1600000 in
/-- Frame, of what may be -/
theorem rframe_any (kind : Int) (l : List UInt8) (w : World) (hk : 1 ≤ kind ∧ kind ≤ 100) (hn : l.length ≤ 60000) :
    Calls Tryz.prog 29 #[.int .i64 kind, .string (tx l)] w fun e w' => e = .returned (.string (tx (frameB kind l))) ∧ Up w w' := by
  obtain ⟨hk1, hk2⟩ := hk
  have hh : ([.int .u8 kind, .int .u8 ((l.length : Int) / 65536), .int .u8 ((l.length : Int) / 256), .int .u8 ((l.length : Int) % 256)] : List Value) = bvs (headB kind l.length) := by
    have e0 : kind = kind % 256 := by omega
    have e1 : (l.length : Int) / 65536 = ((l.length / 65536 % 256 : Nat) : Int) := by omega
    have e2 : (l.length : Int) / 256 = ((l.length / 256 % 256 : Nat) : Int) := by omega
    have e3 : (l.length : Int) % 256 = ((l.length % 256 : Nat) : Int) := by omega
    simp only [bvs, headB, List.map_cons, List.map_nil, bv_ofNat, bv_byteOf, e1, e2, e3, ← e0]
  have hv : tx (sealB (headB kind l.length)) ++ tx (sealB l) = tx (frameB kind l) := tx_append' _ _
  have hz0 := tx_size l
  have hz1 := tx_size (sealB (headB kind l.length))
  have hz2 := tx_size (sealB l)
  rw [sealB_len] at hz1 hz2
  have hsz : ¬ (9223372036854775807 < (tx (sealB (headB kind l.length))).size + (tx (sealB l)).size) := by rw [hz1, hz2]; simp [headB]; omega
  have FS := four_str _ _ _ _ _ hh
  have hc : ∀ j, (w.alloc (.cells #[.int .u8 kind, .int .u8 ((l.length : Int) / 65536), .int .u8 ((l.length : Int) / 256), .int .u8 ((l.length : Int) % 256)] 5)).cell? ⟨w.heap.size, j, none⟩ = #[Value.int .u8 kind, .int .u8 ((l.length : Int) / 65536), .int .u8 ((l.length : Int) / 256), .int .u8 ((l.length : Int) % 256)][j]? := fun j => World.cell?_alloc_at _ _ _ _ rfl
  have FS1 := FS _ _ (hc 0) (hc 1) (hc 2) (hc 3)
  have hl4 : (headB kind l.length).length = 4 := rfl
  have HV := Lib.hid hv
  clear hv hz1 hz2 FS hc hh
  generalize hH : headB kind l.length = H at *
  have HH := Lib.hid hH
  clear hH
  generalize hN : l.length = N at *
  have HN := Lib.hid hN
  clear hN
  go_enter Tryz.func29, Tryz.ntmps29
  go_wp2_with fail
  refine (rseal_any H _ (by omega)).mono ?_
  rintro e w1 ⟨rfl, hu1⟩
  go_wp2_with fail
  refine (rseal_any l _ (by rw [HN.out]; omega)).mono ?_
  rintro e w2 ⟨rfl, hu2⟩
  go_wp2_with fail
  go_ret
  rw [HV.out]
  exact ⟨rfl, (((Up.refl _).alloc _).trans hu1).trans hu2⟩
end Go.Proofs.YtfmjgkfblejknaaGreat

/-
  The walk of frame.Split.
-/
namespace Go.Proofs.YtfmjgkfblejknaaGreat
open Go.RowKit
set_option linter.unusedVariables false
set_option linter.unusedSimpArgs false

/-- an append to a row of one element type keeps the rows of another one -/
theorem own_far {w w' : World} {base base' : Nat} {e e' : TypeId} {sz sz' n n' : Nat} {v v' : Value} {xs xs' : List Value} (h : w.ownsRow base e sz v n xs) (h' : w.ownsRow base' e' sz' v' n' xs') (hne : e ≠ e') (hg : w.grownBy w' v.ownBlock) : w'.ownsRow base' e' sz' v' n' xs' := by
  refine ⟨h'.1, ?_⟩
  rcases h'.2 with h2 | ⟨g, cap, cur, rfl, hb, hh, r⟩
  · exact .inl h2
  · refine .inr ⟨g, cap, cur, rfl, hb, (hg.block g (Array.getElem?_eq_some_iff.1 hh).1 (fun e0 => ?_)).trans hh, r⟩
    rcases h.2 with ⟨rfl, _⟩ | ⟨g1, cap1, cur1, rfl, _, hh1, _⟩
    · simp [Value.ownBlock] at e0
    · have : g1 = g := by simpa [Value.ownBlock] using e0.symm
      subst this
      rw [hh] at hh1
      injection hh1 with hh1
      injection hh1 with _ ht
      exact hne ht.symm
def nvi (l : List Nat) : List Value := l.map fun (k : Nat) => Value.int .i64 (k : Int)
theorem nvi_one (l : List Nat) : ∀ u ∈ nvi l, u.oneCell' = true := by
  intro u hu; simp only [nvi, List.mem_map] at hu; obtain ⟨b, _, rfl⟩ := hu; rfl
theorem pv_one (l : List Pt) : ∀ u ∈ l.map Pt.v, u.oneCell' = true := by
  intro u hu; simp only [List.mem_map] at hu; obtain ⟨b, _, rfl⟩ := hu; rfl

/-- Split: the kinds, the bodies, where it ends, the error -/
def splitG (l : List UInt8) : Nat → Nat → List Nat → List (List UInt8) → List Nat × List (List UInt8) × Nat × Nat
  | 0, k, ks, bs => (ks, bs, k, 0)
  | f + 1, k, ks, bs => if k < l.length then
      (if (takeR (l.drop k)).1 = 0 then splitG l f (k + (takeR (l.drop k)).2.2.2) (ks ++ [(takeR (l.drop k)).2.1]) (bs ++ [(takeR (l.drop k)).2.2.1]) else (ks, bs, k, (takeR (l.drop k)).1))
    else (ks, bs, k, 0)
def splitL (l : List UInt8) : List Nat × List (List UInt8) × Nat × Nat := splitG l (l.length + 1) 0 [] []
theorem takeR_ok {r : List UInt8} (h : (takeR r).1 = 0) : 12 ≤ (takeR r).2.2.2 ∧ (takeR r).2.2.2 ≤ r.length ∧ (takeR r).2.2.2 = (takeR r).2.2.1.length + 12 ∧ (takeR r).2.1 < 256 := by
  unfold takeR at h ⊢
  have hb : (r.getD 0 0).toNat < 256 := (r.getD 0 0).toNat_lt
  split at h
  · cases h
  · rename_i h1
    rw [if_neg h1]
    split at h
    · rename_i h2; exact absurd h h2
    · rename_i h2
      rw [if_neg h2]
      split at h
      · cases h
      · rename_i h3
        rw [if_neg h3]
        split at h
        · cases h
        · rename_i h4
          rw [if_neg h4]
          split at h
          · rename_i h5; exact absurd h h5
          · rename_i h5
            rw [if_neg h5]
            simp only [List.length_take, List.length_drop]
            omega

/-- slices of the call's own, and what they hold -/
def Pts (w : World) (base : Nat) (ps : List Pt) (bs : List (List UInt8)) : Prop := ps.map (·.l) = bs ∧ ∀ p ∈ ps, OwnB w base p.A p.n p.c p.l
theorem Pts.up {w w' : World} {base : Nat} {ps : List Pt} {bs : List (List UInt8)} (h : Pts w base ps bs) (hu : Up w w') : Pts w' base ps bs := ⟨h.1, fun p hp => (h.2 p hp).up hu⟩

end Go.Proofs.YtfmjgkfblejknaaGreat

/-
  The walk of clepsydraref1.Unframe.
-/
namespace Go.Proofs.YtfmjgkfblejknaaGreat
open Go.RowKit
set_option linter.unusedVariables false
set_option linter.unusedSimpArgs false

theorem tx_cut (l : List UInt8) (a b : Nat) : (tx l).extract a b = tx ((l.drop a).take (b - a)) := tx_of (by
  rw [ByteArray.data_extract, Array.toList_extract, List.extract_eq_take_drop, tx_list])
end Go.Proofs.YtfmjgkfblejknaaGreat

/-
  The walks of block.Put, block.Take, of the document's Block, of law11's take.
-/
namespace Go.Proofs.YtfmjgkfblejknaaGreat
open Go.RowKit
set_option linter.unusedVariables false
set_option linter.unusedSimpArgs false

theorem bErr_ok {l : List It} (h : bErr l = 0) : l.length ≤ 100 ∧ 0 < l.length ∧ risesB l = true ∧ l.all okB = true ∧ bytesE l = 0 ∧ mayL l = true := by
  unfold bErr at h
  split at h
  · cases h
  · rename_i h1
    split at h
    · rename_i h2
      have hm := h2
      simp only [mayL, Bool.and_eq_true, decide_eq_true_eq] at h2
      obtain ⟨⟨a, b⟩, c⟩ := h2
      refine ⟨by omega, a, b, c, ?_, hm⟩
      unfold bytesE
      rw [if_neg (by omega), c]; rfl
    · cases h
theorem itemsB_blk (l : List It) (h : l.length ≤ 100) : (itemsB l).length ≤ 3210 := by
  have h1 := numB_ten (n := l.length) (by omega)
  have h2 : ∀ q : List It, (q.flatMap itB).length ≤ 32 * q.length := fun q => by
    induction q with
    | nil => simp
    | cons i q ih => have := itB_len i; simp only [List.flatMap_cons, List.length_append, List.length_cons]; omega
  have h3 := h2 l
  unfold itemsB
  rw [List.length_append]
  omega
def blkL (bs : List UInt8) (l : List It) : List UInt8 := if bErr l = 0 then bs ++ frameB 2 (itemsB l) else []
set_option maxRecDepth 100000 in
set_option maxHeartbeats 1600000 in
theorem bput_any (B : Option Addr) (bn bc : Nat) (bs : List UInt8) (A : Option Addr) (n c : Nat) (l : List It) (w : World) (hb : Rd w w.heap.size 1 B bn (bvs bs)) (hbn : bn ≤ 549755813888) (hr : Rd w w.heap.size 5 A n (itcs l)) (hn : n ≤ 1099511627776) :
    Calls Tryz.prog 43 #[.slice B bn bc, .slice A n c] w fun e w' => ∃ A' n' c', e = .returned (.tuple #[.slice A' n' c', .int .i64 (bErr l : Int)]) ∧ OwnB w' w.heap.size A' n' c' (blkL bs l) ∧ Up w w' := by
  have nil0 : ∀ w0, OwnB w0 w.heap.size none 0 0 [] := fun w0 => World.ownsRow_nil _ _ _ _
  have NIL := Lib.hid nil0
  clear nil0
  have HL := Lib.hid hr.ilen
  by_cases h1 : 100 < n
  · have h1i : (100 : Int) < (n : Int) := by omega
    have hE : bErr l = 2 := by unfold bErr; rw [if_pos (by rw [← HL.out]; exact h1)]
    have hL : blkL bs l = [] := by unfold blkL; rw [hE, if_neg (by decide)]
    have HE := Lib.hid hE
    have HB := Lib.hid hL
    clear hE hL
    go_enter Tryz.func43, Tryz.ntmps43
    go_wp2_with fail
    go_ret2
    rw [HE.out, HB.out]
    exact ⟨none, 0, 0, rfl, NIL.out _, Up.refl _⟩
  · have h1i : ¬ (100 : Int) < (n : Int) := by omega
    obtain ⟨mb, hmb⟩ : ∃ q, q = mayL l := ⟨_, rfl⟩
    have HM := Lib.hid hmb
    clear hmb
    go_enter Tryz.func43, Tryz.ntmps43
    go_wp2_with fail
    refine (bmay_any A n c l w hr hn).mono ?_
    rintro e w1 ⟨rfl, hu1⟩
    rw [← HM.out]
    cases mb
    · have hE : bErr l = 1 := by unfold bErr; rw [if_neg (by rw [← HL.out]; exact h1), ← HM.out]; rfl
      have hL : blkL bs l = [] := by unfold blkL; rw [hE, if_neg (by decide)]
      have HE := Lib.hid hE
      have HB := Lib.hid hL
      clear hE hL
      go_wp2_with fail
      go_ret2
      rw [HE.out, HB.out]
      exact ⟨none, 0, 0, rfl, NIL.out _, hu1⟩
    · have hE : bErr l = 0 := by unfold bErr; rw [if_neg (by rw [← HL.out]; exact h1), ← HM.out]; rfl
      have hL : blkL bs l = bs ++ frameB 2 (itemsB l) := by unfold blkL; rw [if_pos hE]
      obtain ⟨k1, k2, k3, k4, k5, -⟩ := bErr_ok hE
      have hle := itemsB_blk l k1
      have hPE : putE 2 (itemsB l).length = 0 := by unfold putE; rw [if_neg (by omega), if_neg (by omega)]
      have hPL : putL bs 2 (itemsB l) = bs ++ frameB 2 (itemsB l) := by unfold putL; rw [hPE]; rfl
      have HE := Lib.hid hE
      have HB := Lib.hid hL
      have HBE := Lib.hid k5
      have HPE := Lib.hid hPE
      have HPL := Lib.hid hPL
      have HLE := Lib.hid hle
      clear hE hL hPE hPL k3 k4 k5 hle
      go_wp2_with fail
      refine (bytes_any none 0 0 [] A n c l w1 Rd.empty (hr.up hu1) (by omega) (by omega)).mono ?_
      rintro e w2 ⟨D, dn, dc, rfl, hoD, hu2⟩
      rw [HBE.out]
      rw [bytesL_yes HBE.out, List.nil_append] at hoD
      have hdl := hoD.rd
      have hdn := hdl.blen
      have HDN := Lib.hid hdn
      clear hdn
      go_wp2_with fail
      refine (fput_any B bn bc bs 2 D dn dc (itemsB l) w2 (hb.up (hu1.trans hu2)) hdl (by omega) (by have := HDN.out; have := HLE.out; omega)).mono ?_
      rintro e w3 ⟨E1, en, ec, rfl, hoE, hu3⟩
      rw [HPE.out]
      rw [HPL.out] at hoE
      have hsz := (hu1.trans hu2).size
      go_wp2_with fail
      go_ret2
      rw [HE.out, HB.out]
      exact ⟨E1, en, ec, rfl, own_base hoE hsz, (hu1.trans hu2).trans hu3⟩
/-- the block at a place: the error, the items, where it ends -/
def takeB (bs : List UInt8) (at_ : Int) : Nat × List It × Int :=
  let t := takeF bs at_
  if t.1 = 1 then (1, [], 0)
  else if t.1 ≠ 0 ∨ t.2.1 ≠ 2 then (9, [], 0)
  else if (readL t.2.2.1).1 ≠ 0 ∨ bErr (readL t.2.2.1).2 ≠ 0 then (9, [], 0)
  else (0, (readL t.2.2.1).2, t.2.2.2)
def TbPost (r : Nat × List It × Int) (w : World) (e : Ending) (w' : World) : Prop :=
  ∃ R rn rc, e = .returned (.tuple #[.slice R rn rc, .int .i64 r.2.2, .int .i64 (r.1 : Int)]) ∧ Rd w' w'.heap.size 5 R rn (itcs r.2.1) ∧ rn ≤ rc ∧ Up w w'
theorem TbPost.no {r : Nat × List It × Int} {E : Nat} {w w' : World} (h : r = (E, [], 0)) (hu : Up w w') : TbPost r w (.returned (.tuple #[.slice none 0 0, .int .i64 0, .int .i64 (E : Int)])) w' := by
  subst h
  exact ⟨none, 0, 0, rfl, Rd.empty, Nat.le_refl _, hu⟩
theorem own_max {w : World} {base : Nat} {e : TypeId} {sz n c : Nat} {A : Option Addr} {xs : List Value} (h : w.ownsRow base e sz (.slice A n c) n xs) : n ≤ 9223372036854775807 := by
  rcases h.2 with ⟨hv, rfl⟩ | ⟨g, cap, cur, hv, _, _, hn, hm, _⟩
  · exact Nat.zero_le _
  · have : cap ≤ 9223372036854775807 := by simpa only [maxLen] using hm
    omega
theorem itsL_len2 : ∀ (k : Nat) (acc : List It) (l : List UInt8), (itsL k acc l).2.1.length ≤ acc.length + k
  | 0, acc, l => by simp [itsL]
  | k + 1, acc, l => by
    unfold itsL; split
    · have := itsL_len2 k (acc ++ [(oneL l).2.1]) (oneL l).2.2
      rw [List.length_append, List.length_singleton] at this; omega
    · simp
theorem readL_len2 (l : List UInt8) : (readL l).2.length ≤ 2000 := by
  unfold readL
  split
  · simp
  · split
    · simp
    · split
      · simp
      · split
        · have := itsL_len2 (takeL l).1 [] (l.drop (takeL l).2.1)
          simp only [List.length_nil] at this ⊢; omega
        · simp
theorem takeR_body (r : List UInt8) : (takeR r).2.2.1.length ≤ r.length := by
  unfold takeR
  repeat' split
  all_goals first | exact Nat.zero_le _ | (simp only [List.length_take, List.length_drop]; omega)
theorem takeF_len (l : List UInt8) (at_ : Int) : (takeF l at_).2.2.1.length ≤ l.length := by
  unfold takeF
  split
  · exact Nat.zero_le _
  · have h := takeR_body (l.drop at_.toNat)
    rw [List.length_drop] at h
    simp only
    omega
set_option maxRecDepth 100000 in
set_option maxHeartbeats 1600000 in
theorem btake_any (A0 : Option Addr) (n c : Nat) (bs : List UInt8) (at_ : Int) (w : World) (hr : Rd w w.heap.size 1 A0 n (bvs bs)) (hn : n ≤ 549755813888) (hnc : n ≤ c) :
    Calls Tryz.prog 33 #[.slice A0 n c, .int .i64 at_] w (TbPost (takeB bs at_) w) := by
  have hal := hr.blen
  obtain ⟨E, K, bd, nx, hT⟩ : ∃ E K bd nx, takeF bs at_ = (E, K, bd, nx) := ⟨_, _, _, _, rfl⟩
  have hv : takeB bs at_ = if E = 1 then (1, [], 0) else if E ≠ 0 ∨ K ≠ 2 then (9, [], 0) else if (readL bd).1 ≠ 0 ∨ bErr (readL bd).2 ≠ 0 then (9, [], 0) else (0, (readL bd).2, nx) := by
    unfold takeB; rw [hT]
  have hbd : bd.length ≤ 549755813888 := by
    have h := takeF_len bs at_
    rw [hT] at h
    exact Nat.le_trans h (by omega)
  have HV := Lib.hid hv
  have HT := Lib.hid hT
  have HBD := Lib.hid hbd
  clear hv hT hal hbd
  go_enter Tryz.func33, Tryz.ntmps33
  go_wp2_with fail
  refine (ftake_any A0 n c bs at_ w hr (by omega) hnc).mono ?_
  rintro e w3 ⟨B, bn, bc, rfl, hoB, hu3⟩
  rw [HT.out] at hoB ⊢
  (try dsimp only at hoB ⊢)
  have hrB := hoB.rd
  have hbc := own_cap hoB
  have hbl := hrB.blen
  have HBL := Lib.hid hbl
  clear hoB hr hnc hbl
  by_cases hE1 : E = 1
  · have HNO : Hid (takeB bs at_ = (1, [], 0)) := by show _ = _; rw [HV.out, if_pos hE1]
    subst hE1
    have c1 : (((1 : Nat) : Int) == 1) = true := rfl
    clear HV HT
    go_wp2_with fail
    refine bodyPost_ret (v := .tuple #[.slice none 0 0, .int .i64 0, .int .i64 ((1 : Nat) : Int)]) (by simp [results, Tryz.results33, go_sem]) rfl ?_
    exact TbPost.no HNO.out hu3
  · have c1 : ((E : Int) == 1) = false := by simp; omega
    by_cases hEK : E ≠ 0 ∨ K ≠ 2
    · have HNO : Hid (takeB bs at_ = (9, [], 0)) := by show _ = _; rw [HV.out, if_neg hE1, if_pos hEK]
      by_cases hE0 : E = 0
      · have c2 : ((E : Int) != 0) = false := by simp [hE0]
        have c3 : ((K : Int) != 2) = true := by simp; omega
        clear HV HT hE0 hEK hE1
        go_wp2_with fail
        refine bodyPost_ret (v := .tuple #[.slice none 0 0, .int .i64 0, .int .i64 ((9 : Nat) : Int)]) (by simp [results, Tryz.results33, go_sem]) rfl ?_
        exact TbPost.no HNO.out hu3
      · have c2 : ((E : Int) != 0) = true := by simp; omega
        clear HV HT hE0 hEK hE1
        go_wp2_with fail
        refine bodyPost_ret (v := .tuple #[.slice none 0 0, .int .i64 0, .int .i64 ((9 : Nat) : Int)]) (by simp [results, Tryz.results33, go_sem]) rfl ?_
        exact TbPost.no HNO.out hu3
    · have c2 : ((E : Int) != 0) = false := by simp; omega
      have c3 : ((K : Int) != 2) = false := by simp; omega
      have HV2 : Hid (takeB bs at_ = if (readL bd).1 ≠ 0 ∨ bErr (readL bd).2 ≠ 0 then (9, [], 0) else (0, (readL bd).2, nx)) := by show _ = _; rw [HV.out, if_neg hE1, if_neg hEK]
      have hq2 := readL_len2 bd
      clear HV HT hEK hE1
      go_wp2_with fail
      refine (read_any B bn bc bd w3 hrB (by have := HBL.out; have := HBD.out; omega) hbc).mono ?_
      rintro e w4 ⟨Q, qn, qc, rfl, hoQ, hu4⟩
      obtain ⟨qe, ql, hq⟩ : ∃ a b, readL bd = (a, b) := ⟨_, _, rfl⟩
      rw [hq] at hoQ HV2 hq2 ⊢
      (try dsimp only at hoQ HV2 hq2 ⊢)
      clear hq
      have hQ : Rd w4 w4.heap.size 5 Q qn (itcs ql) := Rd.own hoQ
      have hqc : qn ≤ qc := own_cap hoQ
      have hql := hQ.ilen
      have HQL := Lib.hid hql
      have hup4 := hu3.trans hu4
      have hq3 : qn ≤ 2000 := by omega
      clear hql hoQ
      by_cases hqe : qe = 0
      · have c4 : ((qe : Int) != 0) = false := by simp [hqe]
        by_cases h100 : 100 < qn
        · have HNO : Hid (takeB bs at_ = (9, [], 0)) := by
            show _ = _
            rw [HV2.out, if_pos (.inr (by unfold bErr; rw [if_pos (by rw [← HQL.out]; exact h100)]; decide))]
          have c5 : (100 : Int) < (qn : Int) := by omega
          clear HV2 hqe
          go_wp2_with fail
          refine bodyPost_ret (v := .tuple #[.slice none 0 0, .int .i64 0, .int .i64 ((9 : Nat) : Int)]) (by simp [results, Tryz.results33, go_sem]) rfl ?_
          exact TbPost.no HNO.out hup4
        · have c5 : ¬ (100 : Int) < (qn : Int) := by omega
          go_wp2_with fail
          refine (bmay_any Q qn qc ql w4 hQ (by omega)).mono ?_
          rintro e w5 ⟨rfl, hu5⟩
          obtain ⟨mb, hmb⟩ : ∃ q, q = mayL ql := ⟨_, rfl⟩
          rw [← hmb]
          have HM := Lib.hid hmb
          clear hmb
          cases mb
          · have HNO : Hid (takeB bs at_ = (9, [], 0)) := by
              show _ = _
              rw [HV2.out, if_pos (.inr (by unfold bErr; rw [if_neg (by rw [← HQL.out]; exact h100), ← HM.out]; decide))]
            clear HV2 hqe
            go_wp2_with fail
            refine bodyPost_ret (v := .tuple #[.slice none 0 0, .int .i64 0, .int .i64 ((9 : Nat) : Int)]) (by simp [results, Tryz.results33, go_sem]) rfl ?_
            exact TbPost.no HNO.out (hup4.trans hu5)
          · have HYES : Hid (takeB bs at_ = (0, ql, nx)) := by
              show _ = _
              rw [HV2.out, if_neg (by
                rintro (h | h)
                · exact h hqe
                · apply h; unfold bErr; rw [if_neg (by rw [← HQL.out]; exact h100), ← HM.out]; rfl)]
            clear HV2 hqe
            go_wp2_with fail
            refine bodyPost_ret (v := .tuple #[.slice Q qn qc, .int .i64 nx, .int .i64 0]) (by simp [results, Tryz.results33, go_sem]) rfl ?_
            unfold TbPost
            rw [HYES.out]
            exact ⟨Q, qn, qc, rfl, hQ.up hu5, hqc, hup4.trans hu5⟩
      · have HNO : Hid (takeB bs at_ = (9, [], 0)) := by show _ = _; rw [HV2.out, if_pos (.inl hqe)]
        have c4 : ((qe : Int) != 0) = true := by simp; omega
        clear HV2 hqe
        go_wp2_with fail
        refine bodyPost_ret (v := .tuple #[.slice none 0 0, .int .i64 0, .int .i64 ((9 : Nat) : Int)]) (by simp [results, Tryz.results33, go_sem]) rfl ?_
        exact TbPost.no HNO.out hup4
set_option maxRecDepth 100000 in
theorem rblock_any (A : Option Addr) (n c : Nat) (l : List It) (w : World) (hr : Rd w w.heap.size 5 A n (itcs l)) (hn : n ≤ 100) :
    Calls Tryz.prog 25 #[.slice A n c] w fun e w' => e = .returned (.string (tx (frameB 2 (itemsB l)))) ∧ Up w w' := by
  have hle := itemsB_blk l (by have := hr.ilen; omega)
  go_enter Tryz.func25, Tryz.ntmps25
  go_wp2_with fail
  refine (rbytes_any A n c l w hr (by omega)).mono ?_
  rintro e w1 ⟨s, rfl, hs, hu1⟩
  obtain rfl : s = tx (itemsB l) := tx_of hs.out
  go_wp2_with fail
  refine (rframe_any 2 (itemsB l) w1 (by omega) (by omega)).mono ?_
  rintro e w2 ⟨rfl, hu2⟩
  go_wp2_with fail
  go_ret
  exact ⟨rfl, hu1.trans hu2⟩
end Go.Proofs.YtfmjgkfblejknaaGreat

/-
  Rows of one item each, merged: the plain law.
-/
namespace Go.Proofs.YtfmjgkfblejknaaGreat
open Go.RowKit
set_option linter.unusedVariables false
set_option linter.unusedSimpArgs false

theorem less_iff (a b : It) : lessB a b = true ↔ (a.s.toInt < b.s.toInt ∨ a.s.toInt = b.s.toInt ∧ (a.k.toInt < b.k.toInt ∨ a.k.toInt = b.k.toInt ∧ a.t.toNat < b.t.toNat)) := by
  simp only [lessB, lessZ, decide_eq_true_eq]
theorem same_iff (a b : It) : sameB a b = true ↔ (a.s.toInt = b.s.toInt ∧ a.k.toInt = b.k.toInt ∧ a.t.toNat = b.t.toNat) := by
  have h1 := less_iff a b
  have h2 := less_iff b a
  unfold sameB
  rw [Bool.and_eq_true, Bool.not_eq_true', Bool.not_eq_true', ← Bool.not_eq_true, ← Bool.not_eq_true, h1, h2]
  omega
/-- one item put into a rising row: of two that are the same the one that wins -/
def insL : List It → It → List It
  | [], x => [x]
  | y :: r, x => if sameB y x then (if winsB x y then x else y) :: r else if lessB y x then y :: insL r x else x :: y :: r
def rowsL (l : List It) : List It := l.foldl insL []
def riseR : List It → Prop
  | [] => True
  | [_] => True
  | a :: b :: r => lessB a b = true ∧ riseR (b :: r)
theorem riseR_tail {a : It} {r : List It} (h : riseR (a :: r)) : riseR r := by
  cases r with
  | nil => trivial
  | cons b r => exact h.2
theorem riseR_cons {a : It} {r : List It} (h : riseR r) (hd : ∀ z t, r = z :: t → lessB a z = true) : riseR (a :: r) := by
  cases r with
  | nil => trivial
  | cons b r => exact ⟨hd b r rfl, h⟩
theorem riseR_head {a : It} {r : List It} (h : riseR (a :: r)) : ∀ z t, r = z :: t → lessB a z = true := by
  rintro z t rfl
  exact h.1
theorem insL_rise : ∀ (out : List It) (x : It), riseR out → riseR (insL out x) ∧ ∀ a, lessB a x = true → (∀ y r, out = y :: r → lessB a y = true) → ∀ z t, insL out x = z :: t → lessB a z = true
  | [], x, _ => ⟨trivial, fun a h _ z t e => by
    unfold insL at e
    injection e with e1 e2
    rw [← e1]; exact h⟩
  | y :: r, x, h => by
    have ih := insL_rise r x (riseR_tail h)
    unfold insL
    by_cases h1 : sameB y x = true
    · rw [if_pos h1]
      have hs := (same_iff y x).1 h1
      have hw : ∀ a, lessB a (if winsB x y then x else y) = true ↔ lessB a y = true := fun a => by
        split
        · rw [less_iff, less_iff]; omega
        · exact Iff.rfl
      have hw2 : ∀ a, lessB (if winsB x y then x else y) a = true ↔ lessB y a = true := fun a => by
        split
        · rw [less_iff, less_iff]; omega
        · exact Iff.rfl
      refine ⟨riseR_cons (riseR_tail h) (fun z t e => (hw2 z).2 (riseR_head h z t e)), fun a ha hy z t e => ?_⟩
      injection e with e1 e2
      rw [← e1]
      exact (hw a).2 (hy y r rfl)
    · rw [if_neg h1]
      by_cases h2 : lessB y x = true
      · rw [if_pos h2]
        refine ⟨riseR_cons ih.1 (fun z t e => ih.2 y h2 (riseR_head h) z t e), fun a ha hy z t e => ?_⟩
        injection e with e1 e2
        rw [← e1]
        exact hy y r rfl
      · rw [if_neg h2]
        have h3 : lessB x y = true := by
          have a1 := mt (same_iff y x).2 h1
          have a2 := mt (less_iff y x).2 h2
          rw [less_iff]
          omega
        refine ⟨⟨h3, h⟩, fun a ha hy z t e => ?_⟩
        injection e with e1 e2
        rw [← e1]
        exact ha
theorem insL_ok (out : List It) (x : It) (h : ∀ y ∈ out, okB y = true) (hx : okB x = true) : ∀ y ∈ insL out x, okB y = true := by
  induction out with
  | nil => intro y hy; simp [insL] at hy; rw [hy]; exact hx
  | cons a r ih =>
    have ih := ih (fun y hy => h y (List.mem_cons_of_mem _ hy))
    intro y hy
    unfold insL at hy
    split at hy
    · rcases List.mem_cons.1 hy with e | hy
      · rw [e]; split
        · exact hx
        · exact h a List.mem_cons_self
      · exact h y (List.mem_cons_of_mem _ hy)
    · split at hy
      · rcases List.mem_cons.1 hy with e | hy
        · rw [e]; exact h a List.mem_cons_self
        · exact ih y hy
      · rcases List.mem_cons.1 hy with e | hy
        · rw [e]; exact hx
        · exact h y hy
theorem insL_len (out : List It) (x : It) : (insL out x).length ≤ out.length + 1 := by
  induction out with
  | nil => simp [insL]
  | cons a r ih =>
    unfold insL
    split
    · simp
    · split
      · simp only [List.length_cons]; omega
      · simp
theorem rowsL_all (l : List It) : ∀ (out : List It), riseR out → (∀ y ∈ out, okB y = true) → (∀ y ∈ l, okB y = true) → riseR (l.foldl insL out) ∧ (∀ y ∈ l.foldl insL out, okB y = true) ∧ (l.foldl insL out).length ≤ out.length + l.length := by
  induction l with
  | nil => intro out h1 h2 _; exact ⟨h1, h2, by simp⟩
  | cons x l ih =>
    intro out h1 h2 h3
    have h := ih (insL out x) (insL_rise out x h1).1 (insL_ok out x h2 (h3 x List.mem_cons_self)) (fun y hy => h3 y (List.mem_cons_of_mem _ hy))
    have hl := insL_len out x
    refine ⟨h.1, h.2.1, ?_⟩
    have h4 := h.2.2
    simp only [List.foldl_cons, List.length_cons]
    omega
theorem riseR_yes : ∀ {l : List It}, riseR l → ∀ j, j + 1 < l.length → lessB (l.getD j noIt) (l.getD (j + 1) noIt) = true
  | [], _, j, hj => absurd hj (Nat.not_lt_zero _)
  | [a], _, j, hj => by simp at hj
  | a :: b :: r, h, 0, _ => h.1
  | a :: b :: r, h, j + 1, hj => by
    have := riseR_yes h.2 j (by simp only [List.length_cons] at hj ⊢; omega)
    simpa using this
/-- what Rows makes of Ok items, each a row, may be a block, if it is not empty and no longer than 100 -/
theorem rowsL_may (l : List It) (h0 : 0 < (rowsL (l.filter okB)).length) (h1 : (rowsL (l.filter okB)).length ≤ 100) : bErr (rowsL (l.filter okB)) = 0 := by
  have h := rowsL_all (l.filter okB) [] trivial (fun y hy => by cases hy) (fun y hy => (List.mem_filter.1 hy).2)
  have hr : risesB (rowsL (l.filter okB)) = true := risesB_yes (riseR_yes h.1)
  have ho : (rowsL (l.filter okB)).all okB = true := List.all_eq_true.2 h.2.1
  unfold bErr
  rw [if_neg (by omega)]
  unfold mayL
  rw [decide_eq_true h0, hr, ho]; rfl
end Go.Proofs.YtfmjgkfblejknaaGreat

/-
  The walks of slices.Chunk at items, of block.Cut.
-/
namespace Go.Proofs.YtfmjgkfblejknaaGreat
open Go.RowKit Go.Shelf
set_option linter.unusedVariables false
set_option linter.unusedSimpArgs false
attribute [local go_sem] Oper.semAt_some

/-- the parts of n places, q at a time: k parts -/
def partsN (q n k : Nat) : List (Nat × Nat) := (List.range k).map fun j => (j * q, min q (n - j * q))
theorem partsN_succ (q n k : Nat) : partsN q n (k + 1) = partsN q n k ++ [(k * q, min q (n - k * q))] := by simp [partsN, List.range_succ]
theorem partsN_length (q n k : Nat) : (partsN q n k).length = k := by simp [partsN]
/-- the two boxes of the iterator lie as they lay -/
def KB (Bs Bq : Nat) (W W' : World) : Prop := W.heap.size ≤ W'.heap.size ∧ W'.heap[Bs]? = W.heap[Bs]? ∧ W'.heap[Bq]? = W.heap[Bq]?
theorem KB.refl (Bs Bq : Nat) (W : World) : KB Bs Bq W W := ⟨Nat.le_refl _, rfl, rfl⟩
theorem KB.trans {Bs Bq : Nat} {A B C : World} (h : KB Bs Bq A B) (k : KB Bs Bq B C) : KB Bs Bq A C := ⟨Nat.le_trans h.1 k.1, k.2.1.trans h.2.1, k.2.2.trans h.2.2⟩
theorem KB.cs {Bs Bq : Nat} {A B : World} {v : Value} (h : KB Bs Bq A B) (hc : A.cell? ⟨Bs, 0, none⟩ = some v) : B.cell? ⟨Bs, 0, none⟩ = some v := (World.cell?_of_block h.2.1).trans hc
theorem KB.cq {Bs Bq : Nat} {A B : World} {v : Value} (h : KB Bs Bq A B) (hc : A.cell? ⟨Bq, 0, none⟩ = some v) : B.cell? ⟨Bq, 0, none⟩ = some v := (World.cell?_of_block h.2.2).trans hc
theorem KB.up {Bs Bq : Nat} {A B : World} (h : Up A B) (h1 : Bs < A.heap.size) (h2 : Bq < A.heap.size) : KB Bs Bq A B := ⟨h.size, h.block _ h1, h.block _ h2⟩
/-- a part as a slice, within bounds whatever it says -/
def partV (b o n : Nat) (x : Nat × Nat) : Value := .slice (some ⟨b, o + min x.1 n * 5, none⟩) (min x.2 (n - min x.1 n)) (min x.2 (n - min x.1 n))
theorem sizeOf_i (w : World) : (sizeOf 37).run Tryz.prog w = .ok 5 w := by
  obtain ⟨_, ⟨i, z, hi, _, hs, _⟩, _⟩ := itemsT
  simp [sizeOf, typeInfo, hi, hs]
theorem elem_i : Tryz.prog.elem 23 = 37 := by kernel_rfl
theorem cut_from_i (W : World) (A : Option Addr) (n c i : Nat) (h1 : i ≤ n) :
    (Instr.slice 23 (.slice A n c) (some (.int .i64 (i : Int))) none none).run Tryz.prog W = .ok (.slice (cutA A c i 5) (n - i) (c - i)) W := by
  rw [run_slice_l W 23 A n c (by rw [elem_i]; exact Tryz.underlying23) .i64 (i : Int) (by omega) (by omega), elem_i, sizeOf_i]
  simp [sliced, cutA]
theorem cut_row (W : World) (b o n c i en : Nat) (h : 1 ≤ en) (h2 : i + en ≤ c) :
    (Instr.slice 23 (.slice (some ⟨b, o, none⟩) n c) (some (.int .i64 (i : Int))) (some (.int .i64 ((i : Int) + (en : Int)))) (some (.int .i64 ((i : Int) + (en : Int))))).run Tryz.prog W = .ok (.slice (some ⟨b, o + i * 5, none⟩) en en) W := by
  rw [run_slice_lhm W 23 (some ⟨b, o, none⟩) n c (by rw [elem_i]; exact Tryz.underlying23) .i64 .i64 .i64 (i : Int) ((i : Int) + (en : Int)) ((i : Int) + (en : Int)) (by omega) (by omega) (by omega) (by omega), elem_i, sizeOf_i]
  have e1 : ((i : Int) + (en : Int)).toNat = i + en := by omega
  have e2 : ¬ (i + en = i) := by omega
  have e3 : i + en - i = en := by omega
  have e4 : (⟨b, o, none⟩ : Addr).add (i * 5) = ⟨b, o + i * 5, none⟩ := by unfold Addr.add; split <;> simp_all
  simp only [Result.andThen, sliced, Int.toNat_natCast, e1, if_neg e2, e3, Option.map_some, e4]
set_option maxRecDepth 100000 in
set_option maxHeartbeats 2000000 in
theorem chunk1_in (d : Nat) (hd : 1 ≤ d) (l Bs Bq b o n c q K : Nat) (hq1 : 1 ≤ q) (hq2 : q ≤ 100) (hn : n ≤ 1099511627776) (hnc : n ≤ c) (hK : n ≤ K * q) (hK2 : ∀ k, k < K → k * q < n) (J Jx : List (Nat × Nat) → World → Prop)
    (hY : ∀ pre x W, J pre W → pre.length < K → YieldAt Fence.wide (d - 1) Tryz.prog l #[partV b o n x] W fun e W' =>
      (e = .returned (.bool true) ∧ J (pre ++ [x]) W' ∧ KB Bs Bq W W') ∨ (e = .returned (.bool false) ∧ Jx (pre ++ [x]) W'))
    (hJg : ∀ pre W W', J pre W → W.grownBy W' none → J pre W')
    (W : World) (hBs : W.cell? ⟨Bs, 0, none⟩ = some (.slice (some ⟨b, o, none⟩) n c)) (hBq : W.cell? ⟨Bq, 0, none⟩ = some (.int .i64 (q : Int))) (h0 : J [] W) :
    CallsIn Fence.wide d Tryz.prog 89 #[.func (.yield l) #[] #[], .pointer (some ⟨Bs, 0, none⟩), .pointer (some ⟨Bq, 0, none⟩)] W fun e W' => (∃ v, e = .returned v) ∧
      ((∃ ys, ys = partsN q n K ∧ J ys W') ∨ (∃ pre, (∃ k, k ≤ K ∧ pre = partsN q n k) ∧ Jx pre W')) := by
  refine callsIn_of_wp Tryz.func89 rfl trivial ?_ rfl
  simp only [Tryz.ntmps89, List.size_toArray, List.length_cons, List.length_nil, Nat.reduceAdd, Nat.reduceSub, Array.replicate_succ, Array.replicate_zero, List.push_toArray, List.append_toArray, List.nil_append, List.cons_append]
  gi_wp2
  gi_loopw [4] (fun i wr => ∃ k i' : Nat, k ≤ K ∧ i = .int .i64 (i' : Int) ∧ i' = k * q ∧ J (partsN q n k) wr ∧ KB Bs Bq W wr)
    (fun i _ => n - (intOf i).toNat)
  case atStart => exact ⟨0, 0, Nat.zero_le _, rfl, by simp, h0, KB.refl _ _ _⟩
  case round =>
    obtain ⟨k, i, hk, rfl, hi, hJs, hnx⟩ := hrel
    have c1 := hnx.cs hBs
    have c2 := hnx.cq hBq
    have l1 : Bs < wr.heap.size := World.block_lt_of_cell? wr ⟨Bs, 0, none⟩ c1
    have l2 : Bq < wr.heap.size := World.block_lt_of_cell? wr ⟨Bq, 0, none⟩ c2
    have HI := Lib.hid hi
    clear hi
    by_cases hlt : k < K
    · have hkq := hK2 k hlt
      rw [← HI.out] at hkq
      obtain ⟨en, hen⟩ : ∃ e, e = min q (n - i) := ⟨_, rfl⟩
      have he1 : 1 ≤ en := by omega
      have he2 : i + en ≤ n := by omega
      have hik : i ≤ 1099511627776 := by omega
      have h1 : (i : Int) < (n : Int) := by omega
      have hmin : (if n - i < q then ((n - i : Nat) : Int) else (q : Int)) = (en : Int) := by split <;> omega
      have CF : ∀ W, (Instr.slice 23 (.slice (some ⟨b, o, none⟩) n c) (some (.int .i64 (i : Int))) none none).run Tryz.prog W = .ok (.slice (cutA (some ⟨b, o, none⟩) c i 5) (n - i) (c - i)) W := fun W => cut_from_i W _ n c i (by omega)
      have HEN := Lib.hid hen
      clear hen
      have hS : ∀ W', Up wr W' → Up wr W' ∧ W'.cell? ⟨Bs, 0, none⟩ = some (.slice (some ⟨b, o, none⟩) n c) ∧ W'.cell? ⟨Bq, 0, none⟩ = some (.int .i64 (q : Int)) := fun W' h =>
        ⟨h, (h.cell (p := ⟨Bs, 0, none⟩) l1).trans c1, (h.cell (p := ⟨Bq, 0, none⟩) l2).trans c2⟩
      gi_wp2
      refine wpIn_wide.2 ?_
      apply Rg.region_up _ (by kernel_rfl) (by kernel_rfl) hS
      · intro QN hQN
        iterate 7 (apply Rg.RK.ok; (· intro vs w1 hS; go_simp; with_reducible rfl); (· rfl); simp only [Act.put, List.setIfInBounds_toArray, List.set_cons_zero, List.set_cons_succ, Nat.reduceAdd])
        apply Rg.RK.fin []
        intro vs w1 hK hS _
        refine hQN.out _ _ ?_
        clear hQN
        have hu1 := keeps_up hK
        have hJ1 := hJg _ _ _ hJs ⟨hK.os, hK.tape, hK.output, hK.size, fun k hk _ => hK.block k hk (fun h => h)⟩
        have hB1 : KB Bs Bq wr w1 := KB.up hu1 l1 l2
        have CR : ∀ W, (Instr.slice 23 (.slice (some ⟨b, o, none⟩) n c) (some (.int .i64 (i : Int))) (some (.int .i64 ((i : Int) + (en : Int)))) (some (.int .i64 ((i : Int) + (en : Int))))).run Tryz.prog W = .ok (.slice (some ⟨b, o + i * 5, none⟩) en en) W := fun W => cut_row W b o n c i en he1 (by omega)
        obtain ⟨fn, tmps, assign, body, hy, hR⟩ := hY _ (i, en) w1 hJ1 (by rw [partsN_length]; exact hlt)
        have hpv : partV b o n (i, en) = .slice (some ⟨b, o + i * 5, none⟩) en en := by
          unfold partV
          simp only [Nat.min_eq_left (show i ≤ n by omega), Nat.min_eq_left (show en ≤ n - i by omega)]
        rw [hpv] at hy
        (try dsimp only at hy)
        clear hpv
        obtain ⟨-, d1, d2⟩ := hS
        have hwr : IntKind.i64.wrap ((i : Int) + (en : Int)) = (i : Int) + (en : Int) := IntWalk.i64_in _ (by omega)
        clear hK CF hY
        gi_wp2
        refine hR.mono ?_
        rintro e W3 (⟨rfl, hJ3, hk3⟩ | ⟨rfl, hJx3⟩)
        · have e2 := hk3.cq d2
          have hnx3 := (hnx.trans hB1).trans hk3
          have hwq : IntKind.i64.wrap ((i : Int) + (q : Int)) = (i : Int) + (q : Int) := IntWalk.i64_in _ (by omega)
          gi_wp2
          go_roundw
          case rel => exact ⟨k + 1, i + q, by omega, by go_num, by rw [HI.out, Nat.succ_mul], by rw [partsN_succ, ← HI.out, ← HEN.out]; exact hJ3, hnx3⟩
          case measure => simp [intOf]; omega
        · gi_wp2
          refine bodyPost_ret (results_none rfl _ _ _) rfl ?_
          exact ⟨⟨_, rfl⟩, .inr ⟨_, ⟨k + 1, by omega, by rw [partsN_succ, ← HI.out, ← HEN.out]⟩, hJx3⟩⟩
      · kernel_rfl
    · have hkK : k = K := by omega
      have hin : n ≤ i := by rw [HI.out, hkK]; exact hK
      have h1 : ¬ (i : Int) < (n : Int) := by omega
      gi_wp2
      go_end0
      exact ⟨⟨_, rfl⟩, .inl (by rw [← hkK]; exact hJs)⟩
end Go.Proofs.YtfmjgkfblejknaaGreat

/-
  A region that draws its order, in the round of a loop over an iterator.
-/
namespace Go.Proofs.YtfmjgkfblejknaaGreat.Rg
open Go Go.CheckFast Go.RowKit
set_option linter.unusedVariables false
set_option linter.unusedSimpArgs false

section
variable {P : Program} {ops : Array Oper} {Q : Exit → Act → World → Prop} {X0 : Nat → Prop} {w0 : World} {S : World → Prop}
variable {a0 : Act} {F0 : World → Prop}
theorem any_inv {w : World} (S : World → Prop) (X0 : Nat → Prop) (F0 : World → Prop) (hm : P.follows .mixedOrders = true) (hg : globChk ops = true) (hX : ∀ g, X0 g → g < w.heap.size)
    (hF : F0 w.drew) (hF0 : ∀ w1 w2, F0 w1 → Sta (fun g => (g < w.heap.size ∧ ¬ X0 g) ∨ X0 g) w1 w2 → F0 w2) (hS : ∀ w1, Keeps X0 w.drew w1 → S w1)
    (h : ROK P ops Q X0 w.drew S ops.toList 0 [] [G0 ops X0 F0] (fun _ => a0)) : wpAny P .any ops Q ops.size (Array.replicate ops.size false) a0 { w with drawn := w.drawn + 1 } := by
  obtain ⟨D, hD, hA, hfin⟩ := h.data [] rfl (Nat.zero_le _) rfl rfl (fun _ => rfl) rfl
  rw [List.nil_append] at hD
  simp only [List.nil_append, Nat.zero_add] at hA hfin
  refine wpAny_inv (I := fun listed a w1 => ∃ vs, Inv ops X0 w.drew a0 F0 D listed a w1 vs) ?_ ?_ ?_ _ _ _ _ ?_ ?_
  · rintro listed a w1 ⟨vs, hI⟩ hr
    have hg' := hg
    simp only [globChk, Bool.and_eq_true] at hg'
    obtain ⟨⟨⟨hsel, hlook⟩, hdist⟩, htopo⟩ := hg'
    have hall := all_listed htopo hI.size hr
    have ha : a = bGo ops vs D 0 a0 := by
      have h1 : a.tmps = (bGo ops vs D 0 a0).tmps := by
        apply Array.ext_getElem?
        intro t
        by_cases hex : ∃ j, dstOf ops j = some t
        · obtain ⟨j, hj⟩ := hex
          obtain ⟨dj, hdj⟩ : ∃ d, D[j]? = some d := ⟨_, List.getElem?_eq_getElem (by rw [hD]; exact dstOf_lt hj)⟩
          by_cases hts : t < a0.tmps.size
          · rw [hI.slot j t dj (hall j (dstOf_lt hj)) hj hts hdj, bGo_at ops vs (fun i j t => dist_of hdist i j t) t j hj dj D 0 a0 (Nat.zero_le _) (by rw [Nat.sub_zero, hdj]) hts]
          · have hts' : a0.tmps.size ≤ t := Nat.le_of_not_lt hts
            rw [Array.getElem?_eq_none (by rw [hI.tsize]; exact hts'), Array.getElem?_eq_none (by rw [bGo_size]; exact hts')]
        · rw [hI.other t (fun j _ h2 => hex ⟨j, h2⟩), bGo_other ops vs t _ _ _ (fun j _ _ h3 => hex ⟨j, h3⟩)]
      have h2 : a.defers = (bGo ops vs D 0 a0).defers := by rw [bGo_defers, hI.defers]
      cases a
      generalize bGo ops vs D 0 a0 = b at *
      cases b
      simp only at h1 h2
      rw [h1, h2]
    rw [ha]
    refine hfin vs w1 hI.keeps (hS _ hI.keeps) (fun p hp => ?_)
    rw [Fof_G0]
    by_cases hpn : p = ops.size ∨ p < ops.size
    · refine (hI.fact p ?_ ?_).1
      · exact hpn.imp (fun h => by omega) (hall p)
      · intro j d hj hm
        have h1 := List.all_eq_true.1 hp (d.sh (0 + j)) ((mem_shs _ _).2 ⟨j, d, hj, rfl⟩)
        have h2 : (!d.eats.contains p) = true := h1
        rw [List.contains_eq_mem] at h2
        simp [hm] at h2
    · unfold FF
      rw [if_neg (fun e => hpn (.inl e))]
      intro d hd
      have := (List.getElem?_eq_some_iff.1 hd).1
      exact absurd (.inr (by omega)) hpn
  · rintro listed a w1 i ⟨vs, hI⟩ hi
    exact Inv.step (w0 := w.drew) hg hX hF0 hS hD (fun j o d hd ho => hA j o d hd ho) hI hi
  · rintro listed a w1 ⟨vs, hI⟩
    exact hI.size
  · exact Nat.le_trans List.countP_le_length (by simp)
  · have hz : ∀ i, (Array.replicate ops.size false).getD i false = false := fun i => by
      simp only [Array.getD_eq_getD_getElem?, Array.getElem?_replicate]
      split <;> rfl
    have hno : ∀ i, ¬ (Array.replicate ops.size false).getD i false = true := fun i h => by rw [hz] at h; cases h
    refine ⟨fun _ => undef, ⟨by simp, fun i p h => absurd h (hno i), Keeps.refl _ _, rfl, rfl, fun i t d h => absurd h (hno i), fun t _ => rfl, ?_, ?_⟩⟩
    · intro p hp _
      have hp' : ops.size ≤ p := hp.resolve_right (hno p)
      unfold FF OO
      by_cases e : p = ops.size
      · rw [if_pos e]
        refine ⟨hF, fun g hg' => ?_⟩
        rw [if_pos e] at hg'
        exact ⟨hX g hg', fun h => h.2 hg'⟩
      · rw [if_neg e]
        refine ⟨fun d hd => ?_, fun g hg' => ?_⟩
        · have := (List.getElem?_eq_some_iff.1 hd).1; omega
        · rw [if_neg e] at hg'
          obtain ⟨d, hd, _⟩ := hg'
          have := (List.getElem?_eq_some_iff.1 hd).1; omega
    · intro p q hp _ hq _ hpq g h1 h2
      have hp' : ops.size ≤ p := hp.resolve_right (hno p)
      have hq' : ops.size ≤ q := hq.resolve_right (hno q)
      unfold OO at h1 h2
      by_cases e : p = ops.size
      · rw [if_neg (fun e' => hpq (by rw [e, e']))] at h2
        obtain ⟨d, hd, _⟩ := h2
        have := (List.getElem?_eq_some_iff.1 hd).1; omega
      · rw [if_neg e] at h1
        obtain ⟨d, hd, _⟩ := h1
        have := (List.getElem?_eq_some_iff.1 hd).1; omega
end
section
variable {P : Program} {Q : Exit → Act → World → Prop}
theorem rows_bridge {n : Nat} {row : String} {args : Array Value} {w : World} {R : Value → World → Prop} (l : Nat) (h : Rows P row args w R) : RowsIn (Fence.wide.inRound l) n P row args w R :=
  fun c cs _ => let ⟨v, w', r, s⟩ := h c cs; ⟨v, w', r, (stepsIn_wide.2 s : StepsIn (Machine.fenced P Fence.wide) P _ _)⟩
theorem oper_bridge {n l : Nat} {o : Oper} {a : Act} {w : World} {N N' : Act → World → Prop} (hnd : ∀ c, o.op ≠ .defer c) (hN : ∀ a w, N a w → N' a w) (h : o.wp P a w N Q) : o.wpIn (Fence.wide.inRound l) n P a w N' Q := by
  refine ⟨fun _ _ => trivial, ?_⟩
  rw [show (Fence.wide.inRound l).round = some l from rfl, Oper.semAt_some l _ _ hnd]
  unfold Oper.wp at h
  revert h
  cases (execOp a.eval o).run P w with
  | ok nx w' =>
    cases nx with
    | value v => exact fun h => hN _ _ h
    | skip => exact fun h => hN _ _ h
    | defer d => exact fun h => hN _ _ h
    | enter f args =>
      intro h
      refine ⟨fun h0 => (by cases h0), CallsIn.inRound l (callsIn_wide.2 (h.mono ?_))⟩
      intro e w'' h2
      cases e with
      | returned v => exact hN _ _ h2
      | panicked chain => exact h2
      | outgrown => exact h2
    | row row args =>
      intro h
      exact ⟨fun h0 => (by cases h0), rows_bridge l (h.mono fun v w'' h2 => hN _ _ h2)⟩
    | _ => exact fun h => h.elim
  | halt x w' =>
    cases x with
    | panic v => exact fun h => h
    | _ => exact fun h => h.elim
theorem ops_bridge {n l : Nat} {ops : Array Oper} (hnd : ∀ (i : Nat) (o : Oper), ops[i]? = some o → ∀ c, o.op ≠ .defer c) (hQ : ¬ LetsOut Q) : ∀ (is : List Nat) (a : Act) (w : World), wpOps P ops Q is a w → wpOpsIn (Fence.wide.inRound l) n P ops Q is a w
  | [], a, w, h => h
  | i :: rest, a, w, h => by
    unfold wpOps at h
    unfold wpOpsIn
    cases ho : ops[i]? with
    | none =>
      rw [ho] at h
      exact ops_bridge hnd hQ rest a w h
    | some o =>
      rw [ho] at h
      simp only at h ⊢
      split
      · rename_i hw
        rw [if_pos hw] at h
        rcases h with h | ⟨_, h⟩
        · exact oper_bridge (hnd i o ho) (fun a w h => ops_bridge hnd hQ rest a w h) h
        · exact absurd h hQ
      · rename_i hw
        rw [if_neg hw] at h
        exact ⟨fun _ _ => trivial, ops_bridge hnd hQ rest _ _ h⟩
end
section
variable {P : Program} {l : List Oper} {Q : Exit → Act → World → Prop} {a : Act} {w : World} {id : Nat} {out : List Out}
def notDefer (o : Oper) : Bool := match o.op with | .defer _ => false | _ => true
theorem notDefer_all (h : l.all notDefer = true) : ∀ (i : Nat) (o : Oper), l.toArray[i]? = some o → ∀ c, o.op ≠ .defer c := by
  intro i o ho c hc
  rw [List.getElem?_toArray] at ho
  have h1 := List.all_eq_true.1 h o (List.mem_of_getElem? ho)
  unfold notDefer at h1
  rw [hc] at h1
  cases h1
theorem region_own_in {m lp : Nat} (n : Nat) (S : World → Prop) (X0 : Nat → Prop) (F0 : World → Prop) (hQ : ¬ LetsOut Q) (hnd0 : l.all notDefer = true) (hn : l.length = n) (hm : P.follows .mixedOrders = true) (hg : globChk l.toArray = true) (hX : ∀ g, X0 g → g < w.heap.size) (hF : F0 w.drew)
    (hF0 : ∀ w1 w2, F0 w1 → Sta (fun g => (g < w.heap.size ∧ ¬ X0 g) ∨ X0 g) w1 w2 → F0 w2) (hS : ∀ w1, Keeps X0 w.drew w1 → S w1)
    (h : ∀ QN : Act → World → Prop, Shut (∀ a w', Q .normal a w' → QN a w') → RK P QN X0 w.drew S l 0 [⟨n, fun _ => F0, fun _ => X0⟩] (fun _ => a) out) (hc : chkAll l.toArray [] out = true) : (Code.region id l.toArray true).wpIn (Fence.wide.inRound lp) m P Q a w := by
  subst hn
  refine wpIn_region_draw fun t => ops_bridge (notDefer_all hnd0) hQ _ _ _ ?_
  simp only [Region.schedule, hm, Bool.true_or, if_true]
  refine wpAny_sound l.toArray.size t _ a _ ?_
  refine any_inv S X0 F0 hm hg hX hF hF0 hS (show ROK P l.toArray Q X0 w.drew S l 0 [] [⟨l.length, fun _ => F0, fun _ => X0⟩] (fun _ => a) from ?_)
  exact RK.rok (Δ := []) (fun a w h => h) (h (fun a w' => Q .normal a w') (fun a w' h => h)) (fun p vs w h => h) (fun p vs g h => h) (fun e he => by cases he) (by simp) [] hc
end
end Go.Proofs.YtfmjgkfblejknaaGreat.Rg

/-
  The walks of slices.Chunk, slices.Clone at items, of block.Cut.
-/
namespace Go.Proofs.YtfmjgkfblejknaaGreat
open Go.RowKit Go.Shelf
set_option linter.unusedVariables false
set_option linter.unusedSimpArgs false
attribute [local go_sem] Oper.semAt_some

set_option maxRecDepth 100000 in
theorem chunk_any (A : Option Addr) (n c q : Nat) (hq : 1 ≤ q) (w : World) :
    Calls Tryz.prog 67 #[.slice A n c, .int .i64 (q : Int)] w fun e w' => e = .returned (.func (.func 89) #[] #[.pointer (some ⟨w.heap.size, 0, none⟩), .pointer (some ⟨w.heap.size + 1, 0, none⟩)]) ∧ w' = (w.alloc (.cells #[.slice A n c] 23)).alloc (.cells #[.int .i64 (q : Int)] 3) := by
  have h1 : ¬ (q : Int) < 1 := by omega
  go_enter Tryz.func67, Tryz.ntmps67
  go_wp2_with fail
  go_ret
  exact ⟨rfl, rfl⟩
set_option maxRecDepth 100000 in
set_option maxHeartbeats 1000000 in
theorem chunk1_nil (d : Nat) (l Bs Bq : Nat) (J : List (Nat × Nat) → World → Prop) (W : World) (c : Nat) (hBs : W.cell? ⟨Bs, 0, none⟩ = some (.slice none 0 c)) (h0 : J [] W) :
    CallsIn Fence.wide d Tryz.prog 89 #[.func (.yield l) #[] #[], .pointer (some ⟨Bs, 0, none⟩), .pointer (some ⟨Bq, 0, none⟩)] W fun e W' => (∃ v, e = .returned v) ∧ J [] W' := by
  refine callsIn_of_wp Tryz.func89 rfl trivial ?_ rfl
  simp only [Tryz.ntmps89, List.size_toArray, List.length_cons, List.length_nil, Nat.reduceAdd, Nat.reduceSub, Array.replicate_succ, Array.replicate_zero, List.push_toArray, List.append_toArray, List.nil_append, List.cons_append]
  gi_wp2
  gi_loopw [4] (fun i wr => i = .int .i64 0 ∧ wr = W) (fun _ _ => 0)
  case atStart => exact ⟨rfl, rfl⟩
  case round =>
    obtain ⟨rfl, rfl⟩ := hrel
    gi_wp2
    go_end0
    exact ⟨⟨_, rfl⟩, h0⟩
/-- how many parts -/
def partsK (q n : Nat) : Nat := (n + q - 1) / q
theorem partsK_le {q n : Nat} (hq : 1 ≤ q) : n ≤ partsK q n * q := by
  unfold partsK
  have h := Nat.div_add_mod (n + q - 1) q
  have h2 := Nat.mod_lt (n + q - 1) (show 0 < q by omega)
  rw [Nat.mul_comm] at h
  omega
theorem partsK_lt {q n k : Nat} (hq : 1 ≤ q) (hk : k < partsK q n) : k * q < n := by
  unfold partsK at hk
  have h := Nat.div_mul_le_self (n + q - 1) q
  have h2 : (k + 1) * q ≤ (n + q - 1) / q * q := Nat.mul_le_mul_right _ hk
  rw [Nat.succ_mul] at h2
  omega
set_option maxRecDepth 100000 in
theorem chunk_stops (d : Nat) (hd : 1 ≤ d) (Bs Bq b o n c q : Nat) (hq1 : 1 ≤ q) (hq2 : q ≤ 100) (hn : n ≤ 1099511627776) (hnc : n ≤ c) (w : World)
    (hBs : w.cell? ⟨Bs, 0, none⟩ = some (.slice (some ⟨b, o, none⟩) n c)) (hBq : w.cell? ⟨Bq, 0, none⟩ = some (.int .i64 (q : Int))) :
    SeqStopsK Fence.wide d Tryz.prog 89 #[.pointer (some ⟨Bs, 0, none⟩), .pointer (some ⟨Bq, 0, none⟩)] (fun x : Nat × Nat => #[partV b o n x]) (KB Bs Bq) (fun ys => ys = partsN q n (partsK q n)) (fun pre => ∃ k, k ≤ partsK q n ∧ pre = partsN q n k) (partsK q n) w := fun l J Jx W hW hJ _ hY h0 => by
  have c1 := (hW.cell (p := ⟨Bs, 0, none⟩) (World.block_lt_of_cell? w ⟨Bs, 0, none⟩ hBs)).trans hBs
  have c2 := (hW.cell (p := ⟨Bq, 0, none⟩) (World.block_lt_of_cell? w ⟨Bq, 0, none⟩ hBq)).trans hBq
  exact chunk1_in d hd l Bs Bq b o n c q (partsK q n) hq1 hq2 hn hnc (partsK_le hq1) (fun k hk => partsK_lt hq1 hk) J Jx hY (fun pre W W' h hg => hJ pre W W' none h hg (fun r e => by cases e)) W c1 c2 h0
theorem chunk_stops_nil (d : Nat) (Bs Bq c : Nat) (w : World) (hBs : w.cell? ⟨Bs, 0, none⟩ = some (.slice none 0 c)) :
    SeqStopsK Fence.wide d Tryz.prog 89 #[.pointer (some ⟨Bs, 0, none⟩), .pointer (some ⟨Bq, 0, none⟩)] (fun x : Nat × Nat => #[Value.slice none x.1 x.2]) (KB Bs Bq) (fun ys => ys = []) (fun pre => pre = []) 0 w := fun l J Jx W hW hJ _ hY h0 => by
  have c1 := (hW.cell (p := ⟨Bs, 0, none⟩) (World.block_lt_of_cell? w ⟨Bs, 0, none⟩ hBs)).trans hBs
  exact (chunk1_nil d l Bs Bq J W c c1 h0).mono fun e W' ⟨he, hj⟩ => ⟨he, .inl ⟨_, rfl, hj⟩⟩
set_option maxRecDepth 100000 in
set_option maxHeartbeats 1000000 in
theorem clone_any (A : Option Addr) (n c : Nat) (l : List It) (w : World) (hr : Rd w w.heap.size 5 A n (itcs l)) (hn : n ≤ 1099511627776) :
    Calls Tryz.prog 68 #[.slice A n c] w fun e w' => ∃ A' c', e = .returned (.slice A' n c') ∧ Rd w' w'.heap.size 5 A' n (itcs l) ∧ n ≤ c' ∧ Up w w' := by
  have hnil : ∀ W, (binOp .eql 23 (.slice A n c) (.slice none 0 0)).run Tryz.prog W = .ok (.bool A.isNone) W := fun W => Lib.run_eql_slice_nil W 23 37 A n c 0 0 Tryz.underlying23
  rcases A with _ | ad
  · have h0 : n = 0 := by
      rcases Nat.eq_zero_or_pos n with h | h
      · exact h
      · obtain ⟨b, o, e, _⟩ := hr.2 h
        cases e
    subst h0
    rw [show (none : Option Addr).isNone = true from rfl] at hnil
    go_enter Tryz.func68, Tryz.ntmps68
    go_wp2_with fail
    go_ret
    exact ⟨none, 0, rfl, hr, Nat.le_refl _, Up.refl _⟩
  · rw [show (some ad : Option Addr).isNone = false from rfl] at hnil
    have hrow := row_new w #[] 37 (base := w.heap.size) (sz := 5) (n := 0) (Nat.le_refl _) rfl (by omega)
    have hub : Up w (w.alloc (.cells #[] 37)) := (Up.refl w).alloc _
    have hr1 := hr.up hub
    go_enter Tryz.func68, Tryz.ntmps68
    go_wp2_with (at_builtin; refine wpList_append_rd _ itemsT hrow hr1 (itcs_one _) (by omega) (by omega) (by simp) rfl rfl rfl rfl ?_; intro v1 w1 hown1 hg1 hat1)
    obtain ⟨A1, c1, rfl⟩ := own_form hown1
    rw [Nat.zero_add, List.nil_append] at hown1
    rw [Nat.zero_add]
    go_ret
    exact ⟨A1, c1, rfl, Rd.own hown1, own_cap hown1, hub.grown hg1 (fun k e => by simp only [Value.ownBlock, Option.some.injEq] at e; omega)⟩
theorem itcs_take (l : List It) (k : Nat) : (itcs l).take (k * 5) = itcs (l.take k) := by
  induction l generalizing k with
  | nil => simp [itcs]
  | cons x l ih =>
    cases k with
    | zero => simp [itcs]
    | succ k =>
      have := ih k
      simp only [itcs, List.flatMap_cons, List.take_succ_cons] at this ⊢
      rw [← this, List.take_append, List.take_of_length_le (by simp [itc]; omega), show (itc x).length = 5 from rfl, show (k + 1) * 5 - 5 = k * 5 by omega]
theorem itcs_drop (l : List It) (k : Nat) : (itcs l).drop (k * 5) = itcs (l.drop k) := by
  induction l generalizing k with
  | nil => simp [itcs]
  | cons x l ih =>
    cases k with
    | zero => simp [itcs]
    | succ k =>
      have := ih k
      simp only [itcs, List.flatMap_cons, List.drop_succ_cons] at this ⊢
      rw [← this, List.drop_append, List.drop_of_length_le (by simp [itc]; omega), show (itc x).length = 5 from rfl, show (k + 1) * 5 - 5 = k * 5 by omega, List.nil_append]
theorem Rd.part {w : World} {B b o n s e : Nat} {l : List It} (h : Rd w B 5 (some ⟨b, o, none⟩) n (itcs l)) (hse : s + e ≤ n) : Rd w B 5 (some ⟨b, o + s * 5, none⟩) e (itcs ((l.drop s).take e)) := by
  have h1 := (h.from_ (k := s) (cap := n + 1) (by omega) (by omega)).to_ (k := e) (by omega)
  rw [if_neg (by omega), itcs_drop, itcs_take] at h1
  have e4 : (⟨b, o, none⟩ : Addr).add (s * 5) = ⟨b, o + s * 5, none⟩ := by unfold Addr.add; split <;> simp_all
  rw [Option.map_some, e4] at h1
  exact h1
theorem Rd.blk1 {W : World} {g : Nat} {x : Value} {t : TypeId} (h : W.heap[g]? = some (.cells #[x] t (0, 0))) : Rd W W.heap.size 1 (some ⟨g, 0, none⟩) 1 [x] := by
  refine ⟨rfl, fun _ => ⟨g, 0, rfl, (Array.getElem?_eq_some_iff.1 h).1, fun j u hu => ?_⟩⟩
  have hj : j = 0 := by have := (List.getElem?_eq_some_iff.1 hu).1; simp at this; omega
  subst hj
  rw [Nat.zero_add, blk_cell h 0]
  simpa using hu
theorem rowsT : SlT Tryz.prog 50 23 1 24 := SlT.mk' Tryz.underlying50 (z := .slice none 0 0) (by kernel_rfl) rfl (by decide)
theorem partsK_n {q n : Nat} (hq : 1 ≤ q) : partsK q n ≤ n := by
  unfold partsK
  have h1 : n ≤ q * n := Nat.le_mul_of_pos_left n hq
  have h2 : n + q - 1 < q * (n + 1) := by rw [Nat.mul_add]; omega
  have := Nat.div_lt_of_lt_mul h2
  omega
set_option maxRecDepth 100000 in
set_option maxHeartbeats 4000000 in
theorem cut_weak (A : Option Addr) (n c q : Nat) (l : List It) (w : World) (hn0 : 0 < n) (hr : Rd w w.heap.size 5 A n (itcs l)) (hn : n ≤ 1099511627776) (hnc : n ≤ c) (hq1 : 1 ≤ q) (hq2 : q ≤ 100) :
    Calls Tryz.prog 40 #[.slice A n c, .int .i64 (q : Int)] w fun e w' => ∃ R rc, e = .returned (.slice R (partsK q n) rc) ∧ Up w w' := by
  have m1 : ¬ (q : Int) < 1 := by omega
  have m2 : ¬ (100 : Int) < (q : Int) := by omega
  have m3 : ¬ (1 : Int) > (q : Int) := by omega
  have m4 : ¬ q < 1 := by omega
  have m5 : ¬ 100 < q := by omega
  refine (callsIn_wide (n := 3)).1 ?_
  refine callsIn_of_wp_marks Tryz.func40 rfl trivial ?_ rfl
  simp only [Tryz.ntmps40, List.size_toArray, List.length_cons, List.length_nil, Nat.reduceAdd, Nat.reduceSub, Array.replicate_succ, Array.replicate_zero, List.push_toArray, List.append_toArray, List.nil_append, List.cons_append]
  gi_wp2
  refine ⟨trivial, ?_⟩
  refine (callsIn_wide.2 (chunk_any A n c q hq1 _)).mono ?_
  rintro e w' ⟨rfl, rfl⟩
  gi_wp2
  obtain ⟨b, o, rfl, hbw, -⟩ := hr.2 hn0
  obtain ⟨W0, hW0⟩ : ∃ W0, W0 = ((w.alloc (.cells #[.slice none 0 0] 50)).alloc (.cells #[.slice (some ⟨b, o, none⟩) n c] 23)).alloc (.cells #[.int .i64 (q : Int)] 3) := ⟨_, rfl⟩
  rw [← hW0]
  have hup0 : Up w W0 := by rw [hW0]; exact (((Up.refl w).alloc _).alloc _).alloc _
  have hsz : W0.heap.size = w.heap.size + 3 := by rw [hW0]; simp
  have hBo : Boxed W0 w.heap.size 50 (.slice none 0 0) := by rw [hW0]; exact ((Boxed.new w _ _).alloc _).alloc _
  have hBs : W0.cell? ⟨w.heap.size + 1, 0, none⟩ = some (.slice (some ⟨b, o, none⟩) n c) := by
    rw [hW0]
    have h := (Boxed.new (w.alloc (.cells #[.slice none 0 0] 50)) 23 (.slice (some ⟨b, o, none⟩) n c)).alloc (.cells #[.int .i64 (q : Int)] 3)
    rw [World.size_alloc w] at h
    exact h.cell
  have hBq : W0.cell? ⟨w.heap.size + 1 + 1, 0, none⟩ = some (.int .i64 (q : Int)) := by
    rw [hW0]
    have h := Boxed.new ((w.alloc (.cells #[.slice none 0 0] 50)).alloc (.cells #[.slice (some ⟨b, o, none⟩) n c] 23)) 3 (.int .i64 (q : Int))
    rw [World.size_alloc, World.size_alloc] at h
    exact h.cell
  clear hW0
  refine wpIn_rangeFunc_ownF rfl (by omega) (gf := 89) (lb := #[.pointer (some ⟨w.heap.size + 1, 0, none⟩), .pointer (some ⟨w.heap.size + 1 + 1, 0, none⟩)]) rfl trivial (enters_of Tryz.func89 (by kernel_rfl) rfl)
    (chunk_stops (3 - 1) (by omega) (w.heap.size + 1) (w.heap.size + 1 + 1) b o n c q hq1 hq2 hn hnc W0 hBs hBq) (fun h k => h.trans k)
    (fun W l o o' hl h _ _ => ⟨by simp, World.putObj_heap_other (by omega), World.putObj_heap_other (by omega)⟩) (Below.refl _ _) (fun _ => rfl)
    (fun pre W => (∃ (xs : List Value) (v : Value), Boxed W w.heap.size 50 v ∧ W.ownsRow (w.heap.size + 3) 23 1 v pre.length xs ∧ True) ∧ (W.heap.size ≥ w.heap.size + 3 ∧ KB (w.heap.size + 1) (w.heap.size + 1 + 1) W0 W) ∧ Below w.heap.size w W)
    (fun _ _ _ => False)
    ?hown
    (fun _ _ _ _ _ hs _ _ => hs)
    ⟨⟨[], .slice none 0 0, hBo, World.ownsRow_nil _ _ _ _, trivial⟩, ⟨by omega, KB.refl _ _ _⟩, hup0⟩
    (fun x => { tmps := #[.slice (some ⟨b, o, none⟩) n c, .int .i64 (q : Int), undef, undef, .slice none 0 0, .pointer (some ⟨w.heap.size, 0, none⟩), partV b o n x, .slice (some ⟨b, o, none⟩) n c, .int .i64 (q : Int), .int .i64 (q : Int), .int .i64 (q : Int), .func (.func 89) #[] #[.pointer (some ⟨w.heap.size + 1, 0, none⟩), .pointer (some ⟨w.heap.size + 1 + 1, 0, none⟩)], partV b o n x, undef, undef, undef, undef, undef, undef], defers := [] }) ?assign ?body ?done ?stop
  case hown =>
    rintro pre W W' row ⟨⟨xs, v, hv⟩, ⟨hs, hk⟩, hB⟩ hg hrw
    have g1 : (some (w.heap.size + 1)) ≠ row := fun e => by have := (hrw _ e.symm).1; omega
    have g2 : (some (w.heap.size + 1 + 1)) ≠ row := fun e => by have := (hrw _ e.symm).1; omega
    refine ⟨?_, ⟨Nat.le_trans hs hg.size, hk.trans ⟨hg.size, hg.block _ (by omega) g1, hg.block _ (by omega) g2⟩⟩, ?_⟩
    · obtain ⟨v', hv'⟩ := (holdsRow_own (w.heap.size + 3) w.heap.size 50 23 1 (fun s : List (Nat × Nat) × List Value => s.1.length) (fun s => s.2) (fun _ _ => True)) (pre, xs) W W' row ⟨v, hv⟩ hg (fun r e => (hrw r e).2)
      exact ⟨xs, v', hv'⟩
    · exact hB.grown hg hB.size (fun k e => by have := (hrw k e).1; omega)
  case assign =>
    intro l x W K hK
    gi_wp2
    exact hK
  case body =>
    rintro l' pre x W ⟨⟨xs, v, hv, hrow, -⟩, ⟨hs, hk⟩, hB⟩ hlen
    obtain ⟨s0, hs0⟩ : ∃ s0, s0 = min x.1 n := ⟨_, rfl⟩
    obtain ⟨e0, he0⟩ : ∃ e0, e0 = min x.2 (n - s0) := ⟨_, rfl⟩
    have hpv : partV b o n x = .slice (some ⟨b, o + s0 * 5, none⟩) e0 e0 := by unfold partV; rw [← hs0, ← he0]
    rw [hpv]
    have hse : s0 + e0 ≤ n := by omega
    clear hpv hs0 he0
    have hpl : pre.length ≤ 1099511627776 := by have := partsK_n (q := q) (n := n) hq1; omega
    have hrB : ∀ W', Below w.heap.size W W' → Rd W' W'.heap.size 5 (some ⟨b, o + s0 * 5, none⟩) e0 (itcs ((l.drop s0).take e0)) := fun W' h => (hr.up (show Up w W' from Below.trans hB h)).part hse
    have hmx : Tryz.prog.follows .mixedOrders = true := by kernel_rfl
    gi_wp2
    apply Rg.region_own_in 6 (fun W1 => Below w.heap.size W W1) (fun g => g = w.heap.size ∨ Rg.ob v g) (fun W1 => Boxed W1 w.heap.size 50 v ∧ W1.ownsRow (w.heap.size + 3) 23 1 v pre.length xs) ?hQ (by kernel_rfl) rfl (by kernel_rfl) (by kernel_rfl) ?hX ⟨hv, hrow⟩ ?hF0 ?hSS ?walk ?chk
    case hQ => rintro ⟨a, w', h⟩; exact h
    case hX =>
      rintro g (rfl | hg)
      · exact hv.lt
      · exact (hrow.lt g ((ob_of hrow).2 hg)).2
    case hF0 =>
      rintro w1 w2 ⟨h1, h2⟩ hst
      exact ⟨(hst.block _ h1.lt (.inr (.inl rfl))).trans h1, row_sta (Y := fun _ => False) h2 ⟨hst.size, fun g hl hy => hst.block g hl (.inr (.inr (hy.elim False.elim id)))⟩⟩
    case hSS =>
      intro w1 hK
      refine ⟨hK.os, hK.tape, hK.output, hK.size, fun k hk => hK.block k (Nat.lt_of_lt_of_le hk (show w.heap.size ≤ W.heap.size by omega)) ?_⟩
      rintro (h9 | hg)
      · omega
      · have := (hrow.lt k ((ob_of hrow).2 hg)).1; omega
    case chk => kernel_rfl
    case walk =>
      intro QN hQN
      apply Rg.RK.okU [6] (v := v)
      · intro vs w1 hS hf
        obtain ⟨⟨hb1, -⟩, -⟩ := hf
        have hc := Boxed.cell hb1
        go_simp
        (try with_reducible rfl)
      · rfl
      simp only [Act.put, List.setIfInBounds_toArray, List.set_cons_zero, List.set_cons_succ, Nat.reduceAdd]
      (apply Rg.RK.ok; (· intro vs w1 hS; go_simp; with_reducible rfl); (· rfl); simp only [Act.put, List.setIfInBounds_toArray, List.set_cons_zero, List.set_cons_succ, Nat.reduceAdd])
      apply Rg.RK.opn (fun val _ => ∃ A3 c3, val = .slice A3 e0 c3) (fun _ _ => False) [] []
      · exact fun _ _ _ h _ => h
      · rfl
      · intro vs w1 hK hS hf K hKK
        go_simp
        refine (clone_any (some ⟨b, o + s0 * 5, none⟩) e0 e0 ((l.drop s0).take e0) w1 (hrB w1 hS) (by omega)).mono ?_
        rintro e w2 ⟨A3, c3, rfl, -, -, hu2⟩
        exact hKK.out _ _ ⟨A3, c3, rfl⟩ (Rg.Keeps.of_up hu2) (fun g hg => hg.elim)
      simp only [Act.put, List.setIfInBounds_toArray, List.set_cons_zero, List.set_cons_succ, Nat.reduceAdd]
      apply Rg.RK.opD (fun vs W1 => ∃ g, vs 3 = .slice (some ⟨g, 0, none⟩) 1 1 ∧ W1.heap[g]? = some (.cells #[vs 2] 23 (0, 0))) (fun vs g => Rg.ob (vs 3) g) [2] [] [2] (fun vs vs' h => by rw [h 2 (by simp), h 3 (by simp)]; exact ⟨rfl, rfl⟩)
      · rintro vs W1 W2 ⟨g, hv3, hh⟩ hst
        exact ⟨g, hv3, (hst.block g (Array.getElem?_eq_some_iff.1 hh).1 (.inr (by rw [hv3]; rfl))).trans hh⟩
      · rfl
      · intro vs w1 hK hS hf K hKK
        obtain ⟨⟨A3, c3, hv2⟩, -⟩ := hf
        (try dsimp only at hKK ⊢)
        rw [hv2] at hKK ⊢
        go_simp
        refine hKK.out _ _ ⟨w1.heap.size, ?_, ?_⟩ (Rg.Keeps.of_up ((Up.refl _).alloc _)) ?_
        · rw [Rg.upd_same]
        · rw [Rg.upd_ne _ _ (by decide), hv2]; exact heap_alloc_new w1 _
        · rw [Rg.upd_same]
          rintro g rfl
          exact ⟨by simp, .inl (Nat.le_refl _)⟩
      simp only [Act.put, List.setIfInBounds_toArray, List.set_cons_zero, List.set_cons_succ, Nat.reduceAdd]
      apply Rg.RK.opD (fun vs W1 => Boxed W1 w.heap.size 50 v ∧ W1.ownsRow (w.heap.size + 3) 23 1 (vs 4) (pre.length + 1) (xs ++ [vs 2])) (fun vs g => g = w.heap.size ∨ Rg.ob (vs 4) g) [6, 2, 3] [6] [2] (fun vs vs' h => by rw [h 2 (by simp), h 4 (by simp)]; exact ⟨rfl, rfl⟩)
      · rintro vs W1 W2 ⟨h1, h2⟩ hst
        exact ⟨(hst.block _ h1.lt (.inr (.inl rfl))).trans h1, row_sta (Y := fun _ => False) h2 ⟨hst.size, fun g hl hy => hst.block g hl (.inr (.inr (hy.elim False.elim id)))⟩⟩
      · rfl
      · intro vs w1 hK hS hf K hKK
        obtain ⟨⟨hb1, hr1⟩, ⟨A3, c3, hv2⟩, ⟨g, hv3, hh⟩, -⟩ := hf
        (try dsimp only at hKK ⊢)
        rw [hv2] at hKK hh
        (try rw [hv2])
        rw [hv3] at hKK ⊢
        have hr1' : w1.ownsRow (w.heap.size + 3) 23 1 v pre.length xs := hr1
        have hb1' : Boxed w1 w.heap.size 50 v := hb1
        have hsw : W.heap.size ≤ w1.heap.size := hS.size
        refine wp_append_rd _ _ _ rowsT rfl rfl rfl hr1' (Rd.blk1 hh) (by simp [Value.oneCell']) (by omega) (by omega) (by omega) fun v' w5 ho' hg' hat' => ?_
        have hb5 : Boxed w5 w.heap.size 50 v := hb1'.kept hg' (hb1'.not_row (by decide) hr1')
        refine hKK.out _ _ ⟨hb5, ?_⟩ (keeps_grown hr1' hg' fun g hg => ⟨6, by simp, .inr hg⟩) ?_
        · rw [Rg.upd_same, Rg.upd_ne _ _ (by decide), hv2]; exact ho'
        · rw [Rg.upd_same]
          rintro g (h9 | hg)
          · subst h9; exact ⟨hb5.lt, .inr ⟨6, by simp, .inl rfl⟩⟩
          · have h9 := own_grown hr1' ho' hat' (X := fun g => Rg.ob v g) (fun g hg => hg) g hg
            exact ⟨h9.1, h9.2.imp id (fun h => ⟨6, by simp, .inr h⟩)⟩
      simp only [Act.put, List.setIfInBounds_toArray, List.set_cons_zero, List.set_cons_succ, Nat.reduceAdd]
      apply Rg.RK.opD (fun vs W1 => Boxed W1 w.heap.size 50 (vs 4) ∧ W1.ownsRow (w.heap.size + 3) 23 1 (vs 4) (pre.length + 1) (xs ++ [vs 2])) (fun vs g => g = w.heap.size ∨ Rg.ob (vs 4) g) [4] [4] [2, 4] (fun vs vs' h => by rw [h 2 (by simp), h 4 (by simp)]; exact ⟨rfl, rfl⟩)
      · rintro vs W1 W2 ⟨h1, h2⟩ hst
        exact ⟨(hst.block _ h1.lt (.inr (.inl rfl))).trans h1, row_sta (Y := fun _ => False) h2 ⟨hst.size, fun g hl hy => hst.block g hl (.inr (.inr (hy.elim False.elim id)))⟩⟩
      · rfl
      · intro vs w1 hK hS hf K hKK
        obtain ⟨⟨hb1, hr1⟩, -⟩ := hf
        have hr1' : w1.ownsRow (w.heap.size + 3) 23 1 (vs 4) (pre.length + 1) (xs ++ [vs 2]) := hr1
        have hb1' : Boxed w1 w.heap.size 50 v := hb1
        obtain ⟨A4, c4, hv4⟩ := own_form hr1'
        have hne : some w.heap.size ≠ (vs 4).ownBlock := hb1'.not_row (by decide) hr1'
        have hb2 : Boxed (w1.setCell ⟨w.heap.size, 0, none⟩ (vs 4)) w.heap.size 50 (vs 4) := hb1'.set _
        have hr2 : (w1.setCell ⟨w.heap.size, 0, none⟩ (vs 4)).ownsRow (w.heap.size + 3) 23 1 (vs 4) (pre.length + 1) (xs ++ [vs 2]) := hr1'.kept (grownBy_setCell' w1 w.heap.size (vs 4)) (.inr hne.symm)
        have hc := hb1'.cell
        have hfz := hb1'.frozen
        (try dsimp only at hKK ⊢)
        rw [hv4] at hb2 hr2 hKK
        (try rw [hv4])
        go_simp
        have hKp : Rg.Keeps (fun x => x = w.heap.size) w1 (w1.setCell ⟨w.heap.size, 0, none⟩ (.slice A4 (pre.length + 1) c4)) := ⟨rfl, rfl, rfl, by simp, fun k hk hn => (grownBy_setCell' w1 w.heap.size _).block k hk (fun e => hn (by cases e; rfl))⟩
        refine hKK.out undef _ ⟨?_, ?_⟩ (Keeps.weak hKp fun y hy => ⟨4, List.mem_singleton.2 rfl, .inl hy⟩) ?_
        · rw [Rg.upd_ne _ _ (by decide), hv4]; exact hb2
        · rw [Rg.upd_ne _ _ (by decide), Rg.upd_ne _ _ (by decide), hv4]; exact hr2
        · rw [Rg.upd_ne _ _ (by decide)]
          rintro g (h9 | hg)
          · subst h9; exact ⟨hb2.lt, .inr ⟨4, List.mem_singleton.2 rfl, .inl rfl⟩⟩
          · have h8 := (hr1'.lt g ((ob_of hr1').2 hg)).2
            exact ⟨by simpa using h8, .inr ⟨4, List.mem_singleton.2 rfl, .inr hg⟩⟩
      simp only [Act.put, List.setIfInBounds_toArray, List.set_cons_zero, List.set_cons_succ, Nat.reduceAdd]
      apply Rg.RK.fin [5]
      intro vs w8 hK hS hf
      obtain ⟨⟨hb8, hr8⟩, -⟩ := hf
      refine hQN.out _ _ ?_
      clear hQN
      have nx : ∀ k, k < w.heap.size + 3 → k ≠ w.heap.size → ¬ (k = w.heap.size ∨ Rg.ob v k) := fun k h1 h2 h3 => by
        rcases h3 with h3 | h3
        · exact h2 h3
        · have := (hrow.lt k ((ob_of hrow).2 h3)).1; omega
      have hKO : KeepsOthers W w8 := ⟨hK.size, fun k o hko hoc => (hK.block k (Array.getElem?_eq_some_iff.1 hko).1 (fun h3 => by
        rcases h3 with h3 | h3
        · subst h3
          have e9 : some (Obj.cells #[v] 50 (0, 0)) = some o := (show W.heap[w.heap.size]? = _ from hv).symm.trans hko
          injection e9 with e9
          subst e9
          cases hoc
        · rcases hrow.2 with ⟨h4, _⟩ | ⟨g, cap, cur, h4, _, hgb, _⟩
          · rw [h4] at h3; exact h3.elim
          · have h5 := (ob_of hrow).2 h3
            rw [h4] at h5
            simp only [Value.ownBlock, Option.some.injEq] at h5
            subst h5
            rw [hgb] at hko
            injection hko with hko
            subst hko
            cases hoc)).trans hko⟩
      have hKB : KB (w.heap.size + 1) (w.heap.size + 1 + 1) W w8 := ⟨hK.size, hK.block _ (show w.heap.size + 1 < W.heap.size by omega) (nx _ (by omega) (by omega)), hK.block _ (show w.heap.size + 1 + 1 < W.heap.size by omega) (nx _ (by omega) (by omega))⟩
      have hW8 : W.heap.size ≤ w8.heap.size := hK.size
      exact ⟨hKO, hKB, ⟨xs ++ [vs 2], vs 4, hb8, by rw [List.length_append]; exact hr8, trivial⟩, ⟨by omega, hk.trans hKB⟩, Below.trans hB hS⟩
  case done =>
    rintro D ys W hD rfl ⟨⟨xs, v, hv, hrow, -⟩, ⟨hs, hk⟩, hB⟩ hK
    rw [partsN_length] at hrow
    obtain ⟨A4, c4, rfl⟩ := own_form hrow
    have hc := hv.cell
    gi_wp2
    refine ⟨by simp, .inl ⟨_, _, rfl, run_takeDeferred hK, ?_⟩⟩
    refine ⟨_, results_tmp rfl _ _ _, A4, c4, rfl, ?_⟩
    exact hB.trans (belowK_b (w := w) (Nat.le_refl _) W D _ _ (by omega) hK rfl rfl)
  case stop =>
    rintro D c' pre W _ _ h _
    exact h.elim
end Go.Proofs.YtfmjgkfblejknaaGreat

/-
  The walk of law11's one: the Ok items of a list, each a row.
-/
namespace Go.Proofs.YtfmjgkfblejknaaGreat
open Go.RowKit
set_option linter.unusedVariables false
set_option linter.unusedSimpArgs false

/-- rows of one item each: where the item lies, and the room behind it -/
def rowsV (b o : Nat) (ps : List (Nat × Nat)) : List Value := ps.map fun r => Value.slice (some ⟨b, o + r.1 * 5, none⟩) 1 r.2
theorem rowsV_len (b o : Nat) (ps : List (Nat × Nat)) : (rowsV b o ps).length = ps.length := by simp [rowsV]
def pick (l : List It) (ps : List (Nat × Nat)) : List It := ps.map fun r => l.getD r.1 noIt
theorem cut_lh_i (W : World) (b o n c i : Nat) (h2 : i + 1 ≤ n) (hnc : n ≤ c) :
    (Instr.slice 23 (.slice (some ⟨b, o, none⟩) n c) (some (.int .i64 (i : Int))) (some (.int .i64 ((i : Int) + 1))) none).run Tryz.prog W = .ok (.slice (some ⟨b, o + i * 5, none⟩) 1 (c - i)) W := by
  rw [run_slice_lh W 23 (some ⟨b, o, none⟩) n c (by rw [elem_i]; exact Tryz.underlying23) .i64 .i64 (i : Int) ((i : Int) + 1) (by omega) (by omega) (by omega), elem_i, sizeOf_i]
  have e1 : ((i : Int) + 1).toNat = i + 1 := by omega
  have e2 : ¬ (c = i) := by omega
  have e3 : i + 1 - i = 1 := by omega
  have e4 : (⟨b, o, none⟩ : Addr).add (i * 5) = ⟨b, o + i * 5, none⟩ := by unfold Addr.add; split <;> simp_all
  simp only [Result.andThen, sliced, Int.toNat_natCast, e1, if_neg e2, e3, Option.map_some, e4]
end Go.Proofs.YtfmjgkfblejknaaGreat

/-
  Stores as laws at the operation: behind one stands SOME world of which it is known what the block holds, and that nothing else turned.
-/
namespace Go.Proofs.YtfmjgkfblejknaaGreat
open Go.RowKit
set_option linter.unusedVariables false
set_option linter.unusedSimpArgs false

section
variable {P : Program} {ops : Array Oper} {rest : List Oper} {o : Oper} {a : Act} {w : World} {Q : Exit → Act → World → Prop}
/-- nothing but block g has turned -/
abbrev But (g : Nat) (w w' : World) : Prop := Rg.Keeps (fun x => x = g) w w'
theorem setRow_but (w : World) (g : Nat) (cs : Array Value) : But g w (w.setRow g cs) :=
  ⟨rfl, rfl, rfl, by simp, fun k _ hk => setRow_other w g k cs hk⟩
/-- a struct stored whole -/
theorem wpList_store_all (hgd : o.guard = none) (ty : TypeId) (x y : Operand) (ho : o.op = .store ty x y) {g : Nat} {cells : Array Value} (hx : a.eval x = .pointer (some ⟨g, 0, none⟩)) (hy : a.eval y = .agg cells)
    {t : TypeId} {old : Array Value} (hg : w.heap[g]? = some (.cells old t (0, 0))) (hi : (P.info? ty).map (·.size) = some cells.size)
    (hold : old.size = cells.size) (h1 : cells.all (·.oneCell') = true)
    (h : ∀ w', w'.heap[g]? = some (.cells cells t (0, 0)) → But g w w' → wpList P ops Q rest (a.put o.dst undef) w') : wpList P ops Q (o :: rest) a w :=
  wpList_store_row hgd ty x y ho g cells hx hy t old hg hi hold h1 (h _ (setRow_heap w g old cells t _ hg) (setRow_but w g cells))
theorem But.up {g : Nat} {w0 w w' : World} (hu : Up w0 w) (h : But g w w') (hg : w0.heap.size ≤ g) : Up w0 w' :=
  Below.trans hu ⟨h.os, h.tape, h.output, h.size, fun k hk => h.block k (Nat.lt_of_lt_of_le hk hu.size) (fun e => by have h9 : k = g := e; omega)⟩
theorem But.own {g : Nat} {w w' : World} (h : But g w w') {base : Nat} {e : TypeId} {sz n : Nat} {v : Value} {xs : List Value} (ho : w.ownsRow base e sz v n xs) (hv : v.ownBlock ≠ some g) : w'.ownsRow base e sz v n xs := by
  refine ⟨ho.1, ?_⟩
  rcases ho.2 with h2 | ⟨k, cap, cur, hk, hb, hh, r⟩
  · exact .inl h2
  · exact .inr ⟨k, cap, cur, hk, hb, (h.block k (Array.getElem?_eq_some_iff.1 hh).1 (fun e9 => by have h9 : k = g := e9; exact hv (by rw [hk, h9]; rfl))).trans hh, r⟩
end
end Go.Proofs.YtfmjgkfblejknaaGreat

/-
  An item stored whole: the law at the operation.
-/
namespace Go.Proofs.YtfmjgkfblejknaaGreat
open Go.RowKit
set_option linter.unusedVariables false
set_option linter.unusedSimpArgs false
theorem item_info5 : (Tryz.prog.info? 37).map (·.size) = some 5 := by kernel_rfl
theorem item_one (i : It) : (#[.int .i64 i.s.toInt, .int .i64 i.k.toInt, .int .u64 (i.t.toNat : Int), .int .u64 (i.v.toNat : Int), .int .i64 i.x.toInt] : Array Value).all (·.oneCell') = true := by simp [Value.oneCell']
theorem wpList_store_item {ops : Array Oper} {rest : List Oper} {o : Oper} {a : Act} {w : World} {Q : Exit → Act → World → Prop} (hgd : o.guard = none) (x y : Operand) (ho : o.op = .store 37 x y) {g : Nat} {i j : It} {t : TypeId} (hx : a.eval x = .pointer (some ⟨g, 0, none⟩)) (hy : a.eval y = .agg #[.int .i64 i.s.toInt, .int .i64 i.k.toInt, .int .u64 (i.t.toNat : Int), .int .u64 (i.v.toNat : Int), .int .i64 i.x.toInt])
    (hg : w.heap[g]? = some (.cells #[.int .i64 j.s.toInt, .int .i64 j.k.toInt, .int .u64 (j.t.toNat : Int), .int .u64 (j.v.toNat : Int), .int .i64 j.x.toInt] t (0, 0)))
    (h : ∀ w', w'.heap[g]? = some (.cells #[.int .i64 i.s.toInt, .int .i64 i.k.toInt, .int .u64 (i.t.toNat : Int), .int .u64 (i.v.toNat : Int), .int .i64 i.x.toInt] t (0, 0)) → But g w w' → wpList Tryz.prog ops Q rest (a.put o.dst undef) w') : wpList Tryz.prog ops Q (o :: rest) a w :=
  wpList_store_all hgd 37 x y ho hx hy hg item_info5 (show (5 : Nat) = 5 from rfl) (item_one i) h
theorem wpList_store_it5 {ops : Array Oper} {rest : List Oper} {o : Oper} {a : Act} {w : World} {Q : Exit → Act → World → Prop} (hgd : o.guard = none) (x y : Operand) (ho : o.op = .store 37 x y) {g : Nat} {z0 z1 z2 z3 z4 a0 a1 a2 a3 a4 : Value} {t : TypeId} (hx : a.eval x = .pointer (some ⟨g, 0, none⟩)) (hy : a.eval y = .agg #[z0, z1, z2, z3, z4])
    (hg : w.heap[g]? = some (.cells #[a0, a1, a2, a3, a4] t (0, 0))) (h1 : (#[z0, z1, z2, z3, z4] : Array Value).all (·.oneCell') = true)
    (h : ∀ w', w'.heap[g]? = some (.cells #[z0, z1, z2, z3, z4] t (0, 0)) → But g w w' → wpList Tryz.prog ops Q rest (a.put o.dst undef) w') : wpList Tryz.prog ops Q (o :: rest) a w :=
  wpList_store_all hgd 37 x y ho hx hy hg item_info5 (show (5 : Nat) = 5 from rfl) h1 h
end Go.Proofs.YtfmjgkfblejknaaGreat

/-
  The walk of the document's Rows, at rows of one item each.
-/
namespace Go.Proofs.YtfmjgkfblejknaaGreat
open Go.RowKit
set_option linter.unusedVariables false
set_option linter.unusedSimpArgs false

theorem rowsL_succ {xs : List It} {k : Nat} (h : k < xs.length) : rowsL (xs.take (k + 1)) = insL (rowsL (xs.take k)) xs[k] := by
  unfold rowsL
  rw [List.take_succ_eq_append_getElem h, List.foldl_append]; rfl
/-- what is still to come -/
def restL (k : Nat) (r : List It) (x : It) : List It := if k = 0 then insL r x else r
theorem restL_same {r : List It} {y x : It} {t : List It} (hr : r = y :: t) (h : sameB y x = true) : restL 0 r x = (if winsB x y then x else y) :: t := by
  subst hr; unfold restL insL; rw [if_pos rfl, if_pos h]
theorem restL_less {r : List It} {y x : It} {t : List It} (hr : r = y :: t) (h : sameB y x = false) (h2 : lessB y x = true) : restL 0 r x = y :: restL 0 t x := by
  subst hr; unfold restL; rw [if_pos rfl, if_pos rfl]; conv => lhs; unfold insL
  rw [if_neg (by rw [h]; simp), if_pos h2]
theorem restL_else {r : List It} {y x : It} {t : List It} (hr : r = y :: t) (h : sameB y x = false) (h2 : lessB y x = false) : restL 0 r x = x :: r := by
  subst hr; unfold restL; rw [if_pos rfl]; unfold insL
  rw [if_neg (by rw [h]; simp), if_neg (by rw [h2]; simp)]
theorem Rd.one_item {W : World} {i : It} {t : TypeId} : Rd (W.alloc (.cells #[.int .i64 i.s.toInt, .int .i64 i.k.toInt, .int .u64 (i.t.toNat : Int), .int .u64 (i.v.toNat : Int), .int .i64 i.x.toInt] t)) (W.alloc (.cells #[.int .i64 i.s.toInt, .int .i64 i.k.toInt, .int .u64 (i.t.toNat : Int), .int .u64 (i.v.toNat : Int), .int .i64 i.x.toInt] t)).heap.size 5 (some ⟨W.heap.size, 0, none⟩) 1 (itcs [i]) :=
  Rd.ilit_at W [i] #[.int .i64 i.s.toInt, .int .i64 i.k.toInt, .int .u64 (i.t.toNat : Int), .int .u64 (i.v.toNat : Int), .int .i64 i.x.toInt] t rfl (by simp [itcs, itc])
theorem Up.keeps_out {w w1 w2 : World} {X : Nat → Prop} (hu : Up w w1) (h : Rg.Keeps X w1 w2) (hX : ∀ g, X g → w.heap.size ≤ g) : Up w w2 :=
  Below.trans hu ⟨h.os, h.tape, h.output, h.size, fun k hk => h.block k (Nat.lt_of_lt_of_le hk hu.size) (fun hx => by have := hX k hx; omega)⟩
set_option maxRecDepth 100000 in
set_option maxHeartbeats 6400000 in
theorem rows11_any (V : Option Addr) (m vc b o n : Nat) (ps : List (Nat × Nat)) (l : List It) (w : World) (hv : Rd w w.heap.size 1 V m (rowsV b o ps)) (hr : Rd w w.heap.size 5 (some ⟨b, o, none⟩) n (itcs l)) (hps : ∀ r ∈ ps, r.1 < n ∧ 1 ≤ r.2) (hm : m ≤ 3518437208780) :
    Calls Tryz.prog 32 #[.slice V m vc] w fun e w' => ∃ R rn rc, e = .returned (.slice R rn rc) ∧ OwnI w' w.heap.size R rn rc (rowsL (pick l ps)) ∧ Up w w' := by
  have hml : m = ps.length := by have h := hv.1; rw [rowsV_len, Nat.mul_one] at h; exact h.symm
  have HML := Lib.hid hml
  have HPS := Lib.hid hps
  clear hml hps
  go_enter Tryz.func32, Tryz.ntmps32
  go_wp2_with fail
  go_loopw [3, 4] (fun v i wr => ∃ (k : Nat) (O : Option Addr) (on oc : Nat), i = .int .i64 (k : Int) ∧ v = .slice O on oc ∧ k ≤ m ∧ on ≤ k ∧ OwnI wr w.heap.size O on oc (rowsL ((pick l ps).take k)) ∧ Up w wr) (fun _ i _ => m - (intOf i).toNat)
  case atStart => exact ⟨0, none, 0, 0, rfl, rfl, by omega, by omega, World.ownsRow_nil _ _ _ _, Up.refl _⟩
  case round =>
    obtain ⟨k, O, on, oc, rfl, rfl, hk, hok, hown, hu⟩ := hrel
    by_cases hlt : k < m
    · have hkp : k < ps.length := by have := HML.out; omega
      obtain ⟨bV, oV, rfl, hbV, hcV⟩ := (hv.up hu).2 (by omega)
      obtain ⟨r, hrD⟩ : ∃ r, r = ps[k] := ⟨_, rfl⟩
      have hrm := HPS.out r (by rw [hrD]; exact List.getElem_mem _)
      obtain ⟨hrn, hrc⟩ := hrm
      have hvk : wr.cell? ⟨bV, oV + k, none⟩ = some (.slice (some ⟨b, o + r.1 * 5, none⟩) 1 r.2) := hcV k _ (by simp [rowsV, hkp, hrD])
      obtain ⟨b1, o1, x, hA, hbb, hx, x0, x1, x2, x3, x4⟩ := (hr.up hu).item_at hrn
      injection hA with hA
      injection hA with e1 e2
      subst e1; subst e2
      have hpk : (pick l ps)[k]? = some x := by
        unfold pick
        rw [List.getElem?_map, List.getElem?_eq_getElem hkp, Option.map_some, ← hrD, getD_it hx]
      have hpl : k < (pick l ps).length := by simp [pick]; exact hkp
      have hstep : rowsL ((pick l ps).take (k + 1)) = insL (rowsL ((pick l ps).take k)) x := by
        rw [rowsL_succ hpl]
        rw [List.getElem?_eq_getElem hpl] at hpk
        injection hpk with hpk
        rw [hpk]
      have HST := Lib.hid hstep
      obtain ⟨OL, hOL⟩ : ∃ q, q = rowsL ((pick l ps).take k) := ⟨_, rfl⟩
      rw [← hOL] at hown HST
      have hol : on = OL.length := (Rd.own hown : Rd wr wr.heap.size 5 O on (itcs OL)).ilen
      have HOL := Lib.hid hol
      have hkm : (k : Int) < (m : Int) := by omega
      clear hstep hpk hpl hx hrD hcV hOL hol
      obtain ⟨q0, hq0⟩ : ∃ q, q = o + r.1 * 5 := ⟨_, rfl⟩
      rw [← hq0] at hvk x0 x1 x2 x3 x4
      obtain ⟨rc1, hrc1⟩ : ∃ q, q = r.2 := ⟨_, rfl⟩
      rw [← hrc1] at hvk hrc
      clear hq0 hrc1 hrn
      have hXC : ∀ W, Up wr W → (W.cell? ⟨b, q0, none⟩ = some (.int .i64 x.s.toInt) ∧ W.cell? ⟨b, q0 + 1, none⟩ = some (.int .i64 x.k.toInt) ∧ W.cell? ⟨b, q0 + 2, none⟩ = some (.int .u64 (x.t.toNat : Int)) ∧ W.cell? ⟨b, q0 + 3, none⟩ = some (.int .u64 (x.v.toNat : Int)) ∧ W.cell? ⟨b, q0 + 4, none⟩ = some (.int .i64 x.x.toInt)) := fun W h =>
        ⟨(h.cell (p := ⟨b, q0, none⟩) hbb).trans x0, (h.cell (p := ⟨b, q0 + 1, none⟩) hbb).trans x1, (h.cell (p := ⟨b, q0 + 2, none⟩) hbb).trans x2, (h.cell (p := ⟨b, q0 + 3, none⟩) hbb).trans x3, (h.cell (p := ⟨b, q0 + 4, none⟩) hbb).trans x4⟩
      have HXC := Lib.hid hXC
      clear hXC x0 x1 x2 x3 x4
      have hrO : Rd wr wr.heap.size 5 O on (itcs OL) := Rd.own hown
      obtain ⟨wo, hwo⟩ : ∃ q, q = wr := ⟨_, rfl⟩
      subst hwo
      go_wp2_with fail
      go_loopw [5, 7, 8] (fun nv jv kv wr2 => ∃ (j q : Nat) (N : Option Addr) (nn nc : Nat) (NL : List It), nv = .slice N nn nc ∧ jv = .int .i64 (j : Int) ∧ kv = .int .i64 (q : Int) ∧ j ≤ on ∧ q ≤ 1 ∧ nn ≤ j + q ∧ OwnI wr2 wo.heap.size N nn nc NL ∧ Hid (NL ++ restL q (OL.drop j) x = insL OL x) ∧ Up wo wr2) (fun _ j q _ => (on - (intOf j).toNat) + (1 - (intOf q).toNat))
      case atStart => exact ⟨0, 0, none, 0, 0, [], rfl, rfl, rfl, by omega, by omega, by omega, World.ownsRow_nil _ _ _ _, rfl, Up.refl _⟩
      case round =>
        obtain ⟨j, q, N, nn, nc, NL, rfl, rfl, rfl, hj, hq, hnn, hN, hinv, hu2⟩ := hrel
        have hji9 : (j : Int) ≤ (on : Int) := by omega
        rcases (by omega : q = 0 ∨ q = 1) with rfl | rfl
        · rw [show ((0 : Nat) : Int) = (0 : Int) from rfl] at *
          by_cases hjn : j < on
          · obtain ⟨bY, oY, y, hAY, hbY, hy, y0, y1, y2, y3, y4⟩ := hrO.item_at hjn
            have hYC : ∀ W, Up wo W → (W.cell? ⟨bY, oY + j * 5, none⟩ = some (.int .i64 y.s.toInt) ∧ W.cell? ⟨bY, oY + j * 5 + 1, none⟩ = some (.int .i64 y.k.toInt) ∧ W.cell? ⟨bY, oY + j * 5 + 2, none⟩ = some (.int .u64 (y.t.toNat : Int)) ∧ W.cell? ⟨bY, oY + j * 5 + 3, none⟩ = some (.int .u64 (y.v.toNat : Int)) ∧ W.cell? ⟨bY, oY + j * 5 + 4, none⟩ = some (.int .i64 y.x.toInt)) := fun W h =>
              ⟨(h.cell (p := ⟨bY, oY + j * 5, none⟩) hbY).trans y0, (h.cell (p := ⟨bY, oY + j * 5 + 1, none⟩) hbY).trans y1, (h.cell (p := ⟨bY, oY + j * 5 + 2, none⟩) hbY).trans y2, (h.cell (p := ⟨bY, oY + j * 5 + 3, none⟩) hbY).trans y3, (h.cell (p := ⟨bY, oY + j * 5 + 4, none⟩) hbY).trans y4⟩
            have HYC := Lib.hid hYC
            have hjl : j < OL.length := by have := HOL.out; omega
            have hdr : OL.drop j = y :: OL.drop (j + 1) := by
              rw [List.drop_eq_getElem_cons hjl]
              rw [List.getElem?_eq_getElem hjl] at hy
              injection hy with hy
              rw [hy]
            have HDR := Lib.hid hdr
            have hjon : (j : Int) < (on : Int) := by omega
            have zj2 : IntKind.i64.wrap (j : Int) = (j : Int) := IntWalk.i64_in _ (by omega)
            subst hAY
            clear hYC y0 y1 y2 y3 y4 hdr hy
            obtain ⟨sb, hsb⟩ : ∃ q, q = sameB y x := ⟨_, rfl⟩
            obtain ⟨lb, hlb⟩ : ∃ q, q = lessB y x := ⟨_, rfl⟩
            have hcS := fun W => rsame_any y x W
            have hcL := fun W => rless_any y x W
            rw [← hsb] at hcS
            rw [← hlb] at hcL
            have HSB := Lib.hid hsb
            have HLB := Lib.hid hlb
            clear hsb hlb
            have hS0 := fun W (h : Up wr W) => And.intro h (And.intro (HXC.out W (hu2.trans h)) (HYC.out W (hu2.trans h)))
            go_wp2_with fail
            apply Rg.region_up _ (by kernel_rfl) (by kernel_rfl) hS0
            · intro QN hQN
              iterate 5 (apply Rg.RK.ok; (· intro vs w1 hS; go_simp; with_reducible rfl); (· rfl); simp only [Act.put, List.setIfInBounds_toArray, List.set_cons_zero, List.set_cons_succ, Nat.reduceAdd])
              iterate 4 (apply Rg.RK.gok (t := 44); (· intro vs w1 hS; go_simp; with_reducible rfl); (· rfl); (· intro vs; rfl); simp only [Act.put, List.setIfInBounds_toArray, List.set_cons_zero, List.set_cons_succ, Nat.reduceAdd])
              iterate 2 (apply Rg.RK.ok; (· intro vs w1 hS; go_simp; with_reducible rfl); (· rfl); simp only [Act.put, List.setIfInBounds_toArray, List.set_cons_zero, List.set_cons_succ, Nat.reduceAdd])
              iterate 8 (apply Rg.RK.gok (t := 50); (· intro vs w1 hS; go_simp; with_reducible rfl); (· rfl); (· intro vs; rfl); simp only [Act.put, List.setIfInBounds_toArray, List.set_cons_zero, List.set_cons_succ, Nat.reduceAdd])
              apply Rg.RK.gcall (t := 50) (.bool sb) []
              · rfl
              · intro vs; rfl
              · intro vs w1 hK hS _ K hKK
                go_simp
                refine (hcS w1).mono ?_
                rintro e w2 ⟨rfl, hu2⟩
                exact hKK.out _ hu2
              simp only [Act.put, List.setIfInBounds_toArray, List.set_cons_zero, List.set_cons_succ, Nat.reduceAdd]
              iterate 2 (apply Rg.RK.ok; (· intro vs w1 hS; go_simp; with_reducible rfl); (· rfl); simp only [Act.put, List.setIfInBounds_toArray, List.set_cons_zero, List.set_cons_succ, Nat.reduceAdd])
              apply Rg.RK.fin []
              intro vs w1 hK hS _
              refine hQN.out _ _ ?_
              clear hQN
              have hu3 := hu2.trans (keeps_up hK)
              have hN3 := own_up hN (keeps_up hK)
              have hz3 := hu3.size
              have hSB := fun W h => (And.intro h (And.intro (HXC.out W (hu3.trans h)) (HYC.out W (hu3.trans h))))
              clear hS hK hS0 hcS
              cases sb
              · go_wp2_with fail
                apply Rg.region_up _ (by kernel_rfl) (by kernel_rfl) hSB
                · intro QN hQN
                  iterate 5 (apply Rg.RK.ok; (· intro vs w1 hS; go_simp; with_reducible rfl); (· rfl); simp only [Act.put, List.setIfInBounds_toArray, List.set_cons_zero, List.set_cons_succ, Nat.reduceAdd])
                  iterate 5 (apply Rg.RK.gok (t := 88); (· intro vs w1 hS; go_simp; with_reducible rfl); (· rfl); (· intro vs; rfl); simp only [Act.put, List.setIfInBounds_toArray, List.set_cons_zero, List.set_cons_succ, Nat.reduceAdd])
                  iterate 8 (apply Rg.RK.gok (t := 93); (· intro vs w1 hS; go_simp; with_reducible rfl); (· rfl); (· intro vs; rfl); simp only [Act.put, List.setIfInBounds_toArray, List.set_cons_zero, List.set_cons_succ, Nat.reduceAdd])
                  apply Rg.RK.gcall (t := 93) (.bool lb) []
                  · rfl
                  · intro vs; rfl
                  · intro vs w1 hK hS _ K hKK
                    go_simp
                    refine (hcL w1).mono ?_
                    rintro e w2 ⟨rfl, hu2⟩
                    exact hKK.out _ hu2
                  simp only [Act.put, List.setIfInBounds_toArray, List.set_cons_zero, List.set_cons_succ, Nat.reduceAdd]
                  iterate 1 (apply Rg.RK.gok (t := 88); (· intro vs w1 hS; go_simp; with_reducible rfl); (· rfl); (· intro vs; rfl); simp only [Act.put, List.setIfInBounds_toArray, List.set_cons_zero, List.set_cons_succ, Nat.reduceAdd])
                  iterate 2 (apply Rg.RK.ok; (· intro vs w1 hS; go_simp; with_reducible rfl); (· rfl); simp only [Act.put, List.setIfInBounds_toArray, List.set_cons_zero, List.set_cons_succ, Nat.reduceAdd])
                  apply Rg.RK.fin []
                  intro vs w1 hK hS _
                  refine hQN.out _ _ ?_
                  clear hQN
                  have hu4 := hu3.trans (keeps_up hK)
                  have hN4 := own_up hN3 (keeps_up hK)
                  have hz4 := hu4.size
                  clear hS hK hSB
                  cases lb
                  · obtain ⟨d0, d1, d2, d3, d4⟩ := HXC.out _ hu4
                    go_wp2_with (at_builtin; refine wpList_append_rd _ itemsT (news := itcs [x]) (World.ownsRow.alloc hN4 _) (Rd.ilit_at _ [x] _ _ (by simp) rfl) (itcs_one _) (by simp; omega) (by simp; omega) (by simp; omega) rfl rfl rfl rfl ?_; intro v3 w3 hown3 hg3 hat3; obtain ⟨R3, d3, rfl⟩ := own_form hown3)
                    have hu5 : Up wo w3 := (hu4.alloc _).grown hg3 (fun g hg => (hN4.lt g hg).1)
                    go_roundw
                    case rel =>
                      refine ⟨j, 1, R3, nn + 1, d3, NL ++ [x], rfl, by go_num, by go_num, by omega, by omega, by omega, ?_, ?_, hu5⟩
                      · show World.ownsRow _ _ _ _ _ _ _
                        rw [itcs_append]; exact hown3
                      · show _ = _
                        rw [← hinv.out, HDR.out, restL_else rfl HSB.out.symm HLB.out.symm]
                        simp [restL]
                    case measure => simp [intOf] <;> omega
                  · obtain ⟨d0, d1, d2, d3, d4⟩ := HYC.out _ hu4
                    go_wp2_with (at_builtin; refine wpList_append_rd _ itemsT (news := itcs [y]) (World.ownsRow.alloc hN4 _) (Rd.ilit_at _ [y] _ _ (by simp) rfl) (itcs_one _) (by simp; omega) (by simp; omega) (by simp; omega) rfl rfl rfl rfl ?_; intro v3 w3 hown3 hg3 hat3; obtain ⟨R3, d3, rfl⟩ := own_form hown3)
                    have hu5 : Up wo w3 := (hu4.alloc _).grown hg3 (fun g hg => (hN4.lt g hg).1)
                    go_roundw
                    case rel =>
                      refine ⟨j + 1, 0, R3, nn + 1, d3, NL ++ [y], rfl, by go_num, by go_num, by omega, by omega, by omega, ?_, ?_, hu5⟩
                      · show World.ownsRow _ _ _ _ _ _ _
                        rw [itcs_append]; exact hown3
                      · show _ = _
                        rw [← hinv.out, HDR.out, restL_less rfl HSB.out.symm HLB.out.symm]
                        simp
                    case measure => simp [intOf] <;> omega
                · kernel_rfl
              · obtain ⟨d0, d1, d2, d3, d4⟩ := HYC.out _ hu3
                go_wp2_with fail
                obtain ⟨wb, hwb⟩ : ∃ q, q = w1.alloc (.cells #[.int .i64 y.s.toInt, .int .i64 y.k.toInt, .int .u64 (y.t.toNat : Int), .int .u64 (y.v.toNat : Int), .int .i64 y.x.toInt] 37) := ⟨_, rfl⟩
                have HWB := Lib.hid hwb
                rw [← HWB.out]
                obtain ⟨g, hg⟩ : ∃ q, q = w1.heap.size := ⟨_, rfl⟩
                have hgb : wb.heap[g]? = some (.cells #[.int .i64 y.s.toInt, .int .i64 y.k.toInt, .int .u64 (y.t.toNat : Int), .int .u64 (y.v.toNat : Int), .int .i64 y.x.toInt] 37 (0, 0)) := by rw [hwb, hg]; exact heap_alloc_new w1 _
                have hub : Up w1 wb := by rw [hwb]; exact (Up.refl w1).alloc _
                have hu4 := hu3.trans hub
                have hgw : w1.heap.size ≤ g := by omega
                have HGW := Lib.hid hgw
                rw [← hg]
                obtain ⟨ws, hws⟩ : ∃ q, q = winsB x y := ⟨_, rfl⟩
                have hcW := fun W => rwins_any x y W
                rw [← hws] at hcW
                have HWS := Lib.hid hws
                clear hwb hgw hg hws d0 d1 d2 d3 d4
                have hgB := hgb
                clear hcL hSB
                have hS1 := fun W (h : Up wb W) => And.intro h (And.intro (HXC.out W (hu4.trans h)) (And.intro (blk_cell (blk_up h hgb) 0) (And.intro (blk_cell (blk_up h hgb) 1) (And.intro (blk_cell (blk_up h hgb) 2) (And.intro (blk_cell (blk_up h hgb) 3) (blk_cell (blk_up h hgb) 4))))))
                have hN9 := hN3
                apply Rg.region_up _ (by kernel_rfl) (by kernel_rfl) hS1
                · intro QN hQN
                  iterate 5 (apply Rg.RK.ok; (· intro vs w1 hS; go_simp; with_reducible rfl); (· rfl); simp only [Act.put, List.setIfInBounds_toArray, List.set_cons_zero, List.set_cons_succ, Nat.reduceAdd])
                  apply Rg.RK.call (.bool ws) []
                  · rfl
                  · intro vs w1 hK hS _ K hKK
                    go_simp
                    refine (hcW w1).mono ?_
                    rintro e w2 ⟨rfl, hu2⟩
                    exact hKK.out _ hu2
                  simp only [Act.put, List.setIfInBounds_toArray, List.set_cons_zero, List.set_cons_succ, Nat.reduceAdd]
                  apply Rg.RK.fin []
                  intro vs w1 hK hS _
                  refine hQN.out _ _ ?_
                  clear hQN
                  have hub2 := hub.trans (keeps_up hK)
                  have hgc := blk_up (keeps_up hK) hgb
                  clear hS hK hS1 hcW hgb hgB hub
                  obtain ⟨d0, d1, d2, d3, d4⟩ := HXC.out _ (hu3.trans hub2)
                  have e0 := blk_cell hgc 0
                  have e1 := blk_cell hgc 1
                  have e2 := blk_cell hgc 2
                  have e3 := blk_cell hgc 3
                  have e4 := blk_cell hgc 4
                  have f0 := blk_free hgc 0
                  have f1 := blk_free hgc 1
                  have f2 := blk_free hgc 2
                  have f3 := blk_free hgc 3
                  have f4 := blk_free hgc 4
                  simp only [List.getElem?_toArray, List.getElem?_cons_zero, List.getElem?_cons_succ] at e0 e1 e2 e3 e4
                  cases ws
                  · have hu4 := hu3.trans hub2
                    have hN4 := own_up hN9 hub2
                    have hz4 := hu4.size
                    go_wp2_with (at_builtin; refine wpList_append_rd _ itemsT (news := itcs [y]) (World.ownsRow.alloc hN4 _) (Rd.ilit_at _ [y] _ _ (by simp) rfl) (itcs_one _) (by simp; omega) (by simp; omega) (by simp; omega) rfl rfl rfl rfl ?_; intro v3 w3 hown3 hg3 hat3; obtain ⟨R3, d3, rfl⟩ := own_form hown3)
                    have hu5 : Up wo w3 := (hu4.alloc _).grown hg3 (fun g hg => (hN4.lt g hg).1)
                    go_roundw
                    case rel =>
                      refine ⟨j + 1, 1, R3, nn + 1, d3, NL ++ [y], rfl, by go_num, by go_num, by omega, by omega, by omega, ?_, ?_, hu5⟩
                      · show World.ownsRow _ _ _ _ _ _ _
                        rw [itcs_append]; exact hown3
                      · show _ = _
                        rw [← hinv.out, HDR.out, restL_same rfl HSB.out.symm, ← HWS.out]
                        simp [restL]
                    case measure => simp [intOf] <;> omega
                  · have hN4 := own_up hN9 hub2
                    have hgN : ∀ r, (Value.slice N nn nc).ownBlock = some r → r ≠ g := fun r h9 => by
                      have h8 := hN9.lt r h9
                      have h7 := HGW.out
                      omega
                    have HGN := Lib.hid hgN
                    clear hgN
                    clear e0 e1 e2 e3 e4 f0 f1 f2 f3 f4
                    have hGW2 := Nat.le_trans hu3.size HGW.out
                    go_wp2_with (first
                      | (with_reducible show wpList _ _ _ (⟨none, .store 37 _ _, _, _, _, none⟩ :: _) _ _
                         go_loud (refine wpList_store_item rfl _ _ rfl (g := g) (i := x) (by kernel_rfl) (by kernel_rfl) hgc ?_)
                         intro w4 hgd hbut
                         have hN5 := hbut.own hN4 (fun e9 => HGN.out g e9 rfl)
                         have hu4 := But.up (hu3.trans hub2) hbut hGW2
                         have hz4 := hu4.size
                         clear hbut hgc hub2 hN4
                         have e0 := blk_cell hgd 0
                         have e1 := blk_cell hgd 1
                         have e2 := blk_cell hgd 2
                         have e3 := blk_cell hgd 3
                         have e4 := blk_cell hgd 4
                         have f0 := blk_free hgd 0
                         have f1 := blk_free hgd 1
                         have f2 := blk_free hgd 2
                         have f3 := blk_free hgd 3
                         have f4 := blk_free hgd 4
                         simp only [List.getElem?_toArray, List.getElem?_cons_zero, List.getElem?_cons_succ] at e0 e1 e2 e3 e4
                         clear hgd)
                      | (at_builtin; refine wpList_append_rd _ itemsT (news := itcs [x]) (World.ownsRow.alloc hN5 _) (Rd.ilit_at _ [x] _ _ (by simp) rfl) (itcs_one _) (by simp; omega) (by simp; omega) (by simp; omega) rfl rfl rfl rfl ?_; intro v3 w3 hown3 hg3 hat3; obtain ⟨R3, d3, rfl⟩ := own_form hown3))
                    have hu5 : Up wo w3 := (hu4.alloc _).grown hg3 (fun g hg => (hN5.lt g hg).1)
                    go_roundw
                    case rel =>
                      refine ⟨j + 1, 1, R3, nn + 1, d3, NL ++ [x], rfl, by go_num, by go_num, by omega, by omega, by omega, ?_, ?_, hu5⟩
                      · show World.ownsRow _ _ _ _ _ _ _
                        rw [itcs_append]; exact hown3
                      · show _ = _
                        rw [← hinv.out, HDR.out, restL_same rfl HSB.out.symm, ← HWS.out]
                        simp [restL]
                    case measure => simp [intOf] <;> omega
                · kernel_rfl
            · kernel_rfl
          · have hjon : ¬ (j : Int) < (on : Int) := by omega
            have hjd : decide ((j : Int) < (on : Int)) = false := decide_eq_false hjon
            have hdn : OL.drop j = [] := List.drop_eq_nil_of_le (by have := HOL.out; omega)
            have HDN := Lib.hid hdn
            clear hdn
            have hS0 := fun W (h : Up wr W) => And.intro h (HXC.out W (hu2.trans h))
            go_wp2_with fail
            apply Rg.region_up _ (by kernel_rfl) (by kernel_rfl) hS0
            · intro QN hQN
              iterate 5 (apply Rg.RK.ok; (· intro vs w1 hS; go_simp; with_reducible rfl); (· rfl); simp only [Act.put, List.setIfInBounds_toArray, List.set_cons_zero, List.set_cons_succ, Nat.reduceAdd])
              iterate 4 (apply Rg.RK.gno (t := 44) (y := false); (· rfl); (· intro vs; rfl); (· rfl); simp only [Act.put, List.setIfInBounds_toArray, List.set_cons_zero, List.set_cons_succ, Nat.reduceAdd])
              iterate 2 (apply Rg.RK.ok; (· intro vs w1 hS; go_simp; with_reducible rfl); (· rfl); simp only [Act.put, List.setIfInBounds_toArray, List.set_cons_zero, List.set_cons_succ, Nat.reduceAdd])
              iterate 9 (apply Rg.RK.gno (t := 50) (y := false); (· rfl); (· intro vs; rfl); (· rfl); simp only [Act.put, List.setIfInBounds_toArray, List.set_cons_zero, List.set_cons_succ, Nat.reduceAdd])
              iterate 2 (apply Rg.RK.ok; (· intro vs w1 hS; go_simp; with_reducible rfl); (· rfl); simp only [Act.put, List.setIfInBounds_toArray, List.set_cons_zero, List.set_cons_succ, Nat.reduceAdd])
              apply Rg.RK.fin []
              intro vs w1 hK hS _
              refine hQN.out _ _ ?_
              clear hQN
              have hu3 := hu2.trans (keeps_up hK)
              have hN3 := own_up hN (keeps_up hK)
              have hSB := fun W h => (And.intro h (HXC.out W (hu3.trans h)))
              clear hS hK hS0
              go_wp2_with fail
              apply Rg.region_up _ (by kernel_rfl) (by kernel_rfl) hSB
              · intro QN hQN
                iterate 5 (apply Rg.RK.ok; (· intro vs w1 hS; go_simp; with_reducible rfl); (· rfl); simp only [Act.put, List.setIfInBounds_toArray, List.set_cons_zero, List.set_cons_succ, Nat.reduceAdd])
                iterate 5 (apply Rg.RK.gok (t := 88); (· intro vs w1 hS; go_simp; with_reducible rfl); (· rfl); (· intro vs; rfl); simp only [Act.put, List.setIfInBounds_toArray, List.set_cons_zero, List.set_cons_succ, Nat.reduceAdd])
                iterate 9 (apply Rg.RK.gno (t := 93) (y := false); (· rfl); (· intro vs; rfl); (· rfl); simp only [Act.put, List.setIfInBounds_toArray, List.set_cons_zero, List.set_cons_succ, Nat.reduceAdd])
                iterate 1 (apply Rg.RK.gok (t := 88); (· intro vs w1 hS; go_simp; with_reducible rfl); (· rfl); (· intro vs; rfl); simp only [Act.put, List.setIfInBounds_toArray, List.set_cons_zero, List.set_cons_succ, Nat.reduceAdd])
                iterate 2 (apply Rg.RK.ok; (· intro vs w1 hS; go_simp; with_reducible rfl); (· rfl); simp only [Act.put, List.setIfInBounds_toArray, List.set_cons_zero, List.set_cons_succ, Nat.reduceAdd])
                apply Rg.RK.fin []
                intro vs w1 hK hS _
                refine hQN.out _ _ ?_
                clear hQN
                have hu4 := hu3.trans (keeps_up hK)
                have hN4 := own_up hN3 (keeps_up hK)
                have hz4 := hu4.size
                clear hS hK hSB
                obtain ⟨d0, d1, d2, d3, d4⟩ := HXC.out _ hu4
                go_wp2_with (at_builtin; refine wpList_append_rd _ itemsT (news := itcs [x]) (World.ownsRow.alloc hN4 _) (Rd.ilit_at _ [x] _ _ (by simp) rfl) (itcs_one _) (by simp; omega) (by simp; omega) (by simp; omega) rfl rfl rfl rfl ?_; intro v3 w3 hown3 hg3 hat3; obtain ⟨R3, d3, rfl⟩ := own_form hown3)
                have hu5 : Up wo w3 := (hu4.alloc _).grown hg3 (fun g hg => (hN4.lt g hg).1)
                go_roundw
                case rel =>
                  refine ⟨j, 1, R3, nn + 1, d3, NL ++ [x], rfl, by go_num, by go_num, by omega, by omega, by omega, ?_, ?_, hu5⟩
                  · show World.ownsRow _ _ _ _ _ _ _
                    rw [itcs_append]; exact hown3
                  · show _ = _
                    rw [← hinv.out, HDN.out]
                    simp [restL, insL]
                case measure => simp [intOf] <;> omega
              · kernel_rfl
            · kernel_rfl
        · rw [show ((1 : Nat) : Int) = (1 : Int) from rfl] at *
          by_cases hjn : j < on
          · obtain ⟨bY, oY, y, hAY, hbY, hy, y0, y1, y2, y3, y4⟩ := hrO.item_at hjn
            have hYC : ∀ W, Up wo W → (W.cell? ⟨bY, oY + j * 5, none⟩ = some (.int .i64 y.s.toInt) ∧ W.cell? ⟨bY, oY + j * 5 + 1, none⟩ = some (.int .i64 y.k.toInt) ∧ W.cell? ⟨bY, oY + j * 5 + 2, none⟩ = some (.int .u64 (y.t.toNat : Int)) ∧ W.cell? ⟨bY, oY + j * 5 + 3, none⟩ = some (.int .u64 (y.v.toNat : Int)) ∧ W.cell? ⟨bY, oY + j * 5 + 4, none⟩ = some (.int .i64 y.x.toInt)) := fun W h =>
              ⟨(h.cell (p := ⟨bY, oY + j * 5, none⟩) hbY).trans y0, (h.cell (p := ⟨bY, oY + j * 5 + 1, none⟩) hbY).trans y1, (h.cell (p := ⟨bY, oY + j * 5 + 2, none⟩) hbY).trans y2, (h.cell (p := ⟨bY, oY + j * 5 + 3, none⟩) hbY).trans y3, (h.cell (p := ⟨bY, oY + j * 5 + 4, none⟩) hbY).trans y4⟩
            have HYC := Lib.hid hYC
            have hjl : j < OL.length := by have := HOL.out; omega
            have hdr : OL.drop j = y :: OL.drop (j + 1) := by
              rw [List.drop_eq_getElem_cons hjl]
              rw [List.getElem?_eq_getElem hjl] at hy
              injection hy with hy
              rw [hy]
            have HDR := Lib.hid hdr
            have hjon : (j : Int) < (on : Int) := by omega
            have zj2 : IntKind.i64.wrap (j : Int) = (j : Int) := IntWalk.i64_in _ (by omega)
            subst hAY
            clear hYC y0 y1 y2 y3 y4 hdr hy
            have hS0 := fun W (h : Up wr W) => And.intro h (And.intro (HXC.out W (hu2.trans h)) (HYC.out W (hu2.trans h)))
            go_wp2_with fail
            apply Rg.region_up _ (by kernel_rfl) (by kernel_rfl) hS0
            · intro QN hQN
              iterate 5 (apply Rg.RK.ok; (· intro vs w1 hS; go_simp; with_reducible rfl); (· rfl); simp only [Act.put, List.setIfInBounds_toArray, List.set_cons_zero, List.set_cons_succ, Nat.reduceAdd])
              iterate 4 (apply Rg.RK.gok (t := 44); (· intro vs w1 hS; go_simp; with_reducible rfl); (· rfl); (· intro vs; rfl); simp only [Act.put, List.setIfInBounds_toArray, List.set_cons_zero, List.set_cons_succ, Nat.reduceAdd])
              iterate 2 (apply Rg.RK.ok; (· intro vs w1 hS; go_simp; with_reducible rfl); (· rfl); simp only [Act.put, List.setIfInBounds_toArray, List.set_cons_zero, List.set_cons_succ, Nat.reduceAdd])
              iterate 9 (apply Rg.RK.gno (t := 50) (y := false); (· rfl); (· intro vs; rfl); (· rfl); simp only [Act.put, List.setIfInBounds_toArray, List.set_cons_zero, List.set_cons_succ, Nat.reduceAdd])
              iterate 2 (apply Rg.RK.ok; (· intro vs w1 hS; go_simp; with_reducible rfl); (· rfl); simp only [Act.put, List.setIfInBounds_toArray, List.set_cons_zero, List.set_cons_succ, Nat.reduceAdd])
              apply Rg.RK.fin []
              intro vs w1 hK hS _
              refine hQN.out _ _ ?_
              clear hQN
              have hu3 := hu2.trans (keeps_up hK)
              have hN3 := own_up hN (keeps_up hK)
              have hSB := fun W h => (And.intro h (And.intro (HXC.out W (hu3.trans h)) (HYC.out W (hu3.trans h))))
              clear hS hK hS0
              go_wp2_with fail
              apply Rg.region_up _ (by kernel_rfl) (by kernel_rfl) hSB
              · intro QN hQN
                iterate 5 (apply Rg.RK.ok; (· intro vs w1 hS; go_simp; with_reducible rfl); (· rfl); simp only [Act.put, List.setIfInBounds_toArray, List.set_cons_zero, List.set_cons_succ, Nat.reduceAdd])
                iterate 5 (apply Rg.RK.gno (t := 88) (y := true); (· rfl); (· intro vs; rfl); (· rfl); simp only [Act.put, List.setIfInBounds_toArray, List.set_cons_zero, List.set_cons_succ, Nat.reduceAdd])
                iterate 9 (apply Rg.RK.gun (t := 93); (· rfl); (· intro vs; rfl); simp only [Act.put, List.setIfInBounds_toArray, List.set_cons_zero, List.set_cons_succ, Nat.reduceAdd])
                iterate 1 (apply Rg.RK.gno (t := 88) (y := true); (· rfl); (· intro vs; rfl); (· rfl); simp only [Act.put, List.setIfInBounds_toArray, List.set_cons_zero, List.set_cons_succ, Nat.reduceAdd])
                iterate 2 (apply Rg.RK.ok; (· intro vs w1 hS; go_simp; with_reducible rfl); (· rfl); simp only [Act.put, List.setIfInBounds_toArray, List.set_cons_zero, List.set_cons_succ, Nat.reduceAdd])
                apply Rg.RK.fin []
                intro vs w1 hK hS _
                refine hQN.out _ _ ?_
                clear hQN
                have hu4 := hu3.trans (keeps_up hK)
                have hN4 := own_up hN3 (keeps_up hK)
                have hz4 := hu4.size
                clear hS hK hSB
                obtain ⟨d0, d1, d2, d3, d4⟩ := HYC.out _ hu4
                go_wp2_with (at_builtin; refine wpList_append_rd _ itemsT (news := itcs [y]) (World.ownsRow.alloc hN4 _) (Rd.ilit_at _ [y] _ _ (by simp) rfl) (itcs_one _) (by simp; omega) (by simp; omega) (by simp; omega) rfl rfl rfl rfl ?_; intro v3 w3 hown3 hg3 hat3; obtain ⟨R3, d3, rfl⟩ := own_form hown3)
                have hu5 : Up wo w3 := (hu4.alloc _).grown hg3 (fun g hg => (hN4.lt g hg).1)
                go_roundw
                case rel =>
                  refine ⟨j + 1, 1, R3, nn + 1, d3, NL ++ [y], rfl, by go_num, by go_num, by omega, by omega, by omega, ?_, ?_, hu5⟩
                  · show World.ownsRow _ _ _ _ _ _ _
                    rw [itcs_append]; exact hown3
                  · show _ = _
                    rw [← hinv.out, HDR.out]
                    simp [restL]
                case measure => simp [intOf] <;> omega
              · kernel_rfl
            · kernel_rfl
          · have hjon : ¬ (j : Int) < (on : Int) := by omega
            have hdn : OL.drop j = [] := List.drop_eq_nil_of_le (by have := HOL.out; omega)
            have HDN := Lib.hid hdn
            clear hdn
            go_wp2_with fail
            go_roundw
            case rel =>
              refine ⟨k + 1, N, nn, nc, by go_num, rfl, by omega, by omega, ?_, hu.trans hu2⟩
              rw [HST.out, ← hinv.out, HDN.out]
              rw [show NL ++ restL 1 [] x = NL from by simp [restL]]
              exact own_base hN hu.size
            case measure => simp [intOf] <;> omega
    · have hkm : ¬ (k : Int) < (m : Int) := by omega
      go_wp2_with fail
      go_ret
      have hkl : k = (pick l ps).length := by have := HML.out; simp [pick]; omega
      rw [hkl, List.take_length] at hown
      exact ⟨O, on, oc, rfl, hown, hu⟩
end Go.Proofs.YtfmjgkfblejknaaGreat

/-
  Rows of items.
-/
namespace Go.Proofs.YtfmjgkfblejknaaGreat
open Go.RowKit
set_option linter.unusedVariables false
set_option linter.unusedSimpArgs false

/-- a row of items and what it holds -/
structure Rw where
  A : Option Addr
  n : Nat
  c : Nat
  l : List It
def Rw.v (r : Rw) : Value := .slice r.A r.n r.c
def rwv (rs : List Rw) : List Value := rs.map Rw.v
def rwl (rs : List Rw) : List (List It) := rs.map Rw.l
/-- each of the rows reads so -/
def RwOk (w : World) (rs : List Rw) : Prop := ∀ r ∈ rs, Rd w w.heap.size 5 r.A r.n (itcs r.l) ∧ r.n ≤ r.c
theorem RwOk.nil (w : World) : RwOk w [] := fun r hr => by cases hr
theorem RwOk.up {w w' : World} {rs : List Rw} (h : RwOk w rs) (hu : Up w w') : RwOk w' rs := fun r hr => ⟨(h r hr).1.up hu, (h r hr).2⟩
theorem RwOk.snoc {w : World} {rs : List Rw} (h : RwOk w rs) {A : Option Addr} {n c : Nat} {l : List It} (hr : Rd w w.heap.size 5 A n (itcs l)) (hc : n ≤ c) : RwOk w (rs ++ [⟨A, n, c, l⟩]) := fun r hr' => by
  rcases List.mem_append.1 hr' with h1 | h1
  · exact h r h1
  · simp at h1; subst h1; exact ⟨hr, hc⟩
end Go.Proofs.YtfmjgkfblejknaaGreat

/-
  Plain laws of items' bytes.
-/
namespace Go.Proofs.YtfmjgkfblejknaaGreat
open Go.RowKit
set_option linter.unusedVariables false
set_option linter.unusedSimpArgs false

theorem ok_bd {i : It} (h : okB i = true) : 0 ≤ i.s.toInt ∧ i.s.toInt ≤ 255 ∧ 1 ≤ i.k.toInt ∧ i.k.toInt ≤ 2 := by
  simp only [okB, okZ, decide_eq_true_eq] at h; omega
theorem byteOf_val {z : Int} (h0 : 0 ≤ z) (h1 : z ≤ 255) : ((byteOf z).toNat : Int) = z := by
  unfold byteOf; simp; omega
theorem takesL_ok {k : Nat} {acc : List Nat} {x : Nat} {r : List UInt8} (hx : x < 18446744073709551616) : takesL (k + 1) acc (numB x ++ r) = takesL k (acc ++ [x]) r := by
  conv => lhs; unfold takesL
  rw [takeL_numB x r hx, if_pos rfl]
  simp
theorem mkIt_self {i : It} (h : okB i = true) : mkIt (byteOf i.s.toInt).toNat (byteOf i.k.toInt).toNat i.t.toNat i.v.toNat (signN i.x.toInt) = i := by
  obtain ⟨a1, a2, a3, a4⟩ := ok_bd h
  have s1 := byteOf_val a1 a2
  have k1 := byteOf_val (z := i.k.toInt) (by omega) (by omega)
  have hx : unsignZ (signN i.x.toInt) = i.x.toInt := unsign_sign _
  unfold mkIt
  rw [s1, k1, hx]
  simp
theorem oneL_it {i : It} (r : List UInt8) (h : okB i = true) : oneL (itB i ++ r) = (0, i, r) := by
  have hl : ¬ (itB i ++ r).length < 2 := by simp [itB]
  have hd : (itB i ++ r).drop 2 = numB i.t.toNat ++ (numB i.v.toNat ++ (numB (signN i.x.toInt) ++ r)) := by simp [itB]
  have h0 : (itB i ++ r).getD 0 0 = byteOf i.s.toInt := by simp [itB]
  have h1 : (itB i ++ r).getD 1 0 = byteOf i.k.toInt := by simp [itB]
  have ht : takesL 3 [] ((itB i ++ r).drop 2) = (0, [i.t.toNat, i.v.toNat, signN i.x.toInt], r) := by
    rw [hd, takesL_ok i.t.toNat_lt, takesL_ok i.v.toNat_lt, takesL_ok (signN_lt _ (i64_bd i.x).1 (i64_bd i.x).2)]; rfl
  unfold oneL
  rw [if_neg hl, ht, if_pos rfl, h0, h1]
  simp only [List.getD_cons_zero, List.getD_cons_succ]
  rw [mkIt_self h]
theorem takesL_nil {k : Nat} {acc : List Nat} {l : List UInt8} (h : (takeL l).2.2 ≠ 0) : (takesL (k + 1) acc l).1 ≠ 0 := by
  unfold takesL; rw [if_neg h]; exact h
theorem takes1_cut {x j k : Nat} {acc : List Nat} (hx : x < 18446744073709551616) (hj : j < (numB x).length) : (takesL (k + 1) acc ((numB x).take j)).1 ≠ 0 :=
  takesL_nil (by rw [takeL_cut hx hj]; decide)
theorem takes_step_cut {x j k : Nat} {acc : List Nat} {r : List UInt8} (hx : x < 18446744073709551616) (ih : ∀ j acc, j < r.length → (takesL k acc (r.take j)).1 ≠ 0) (hj : j < (numB x ++ r).length) : (takesL (k + 1) acc ((numB x ++ r).take j)).1 ≠ 0 := by
  by_cases hlt : j < (numB x).length
  · rw [List.take_append_of_le_length (by omega)]
    exact takes1_cut hx hlt
  · rw [List.take_append, List.take_of_length_le (by omega), takesL_ok hx]
    exact ih _ _ (by rw [List.length_append] at hj; omega)
theorem oneL_cut {i : It} {j : Nat} (hj : j < (itB i).length) : (oneL ((itB i).take j)).1 ≠ 0 := by
  unfold oneL
  by_cases h2 : ((itB i).take j).length < 2
  · rw [if_pos h2]; decide
  · rw [if_neg h2]
    have hj2 : 2 ≤ j := by rw [List.length_take] at h2; omega
    have hd : ((itB i).take j).drop 2 = (numB i.t.toNat ++ (numB i.v.toNat ++ numB (signN i.x.toInt))).take (j - 2) := by
      rw [List.drop_take]; rfl
    have hjl : j - 2 < (numB i.t.toNat ++ (numB i.v.toNat ++ numB (signN i.x.toInt))).length := by
      simp only [itB, List.length_cons] at hj; omega
    have hne : (takesL 3 [] (((itB i).take j).drop 2)).1 ≠ 0 := by
      rw [hd]
      refine takes_step_cut i.t.toNat_lt (fun j acc hj => ?_) hjl
      refine takes_step_cut i.v.toNat_lt (fun j acc hj => ?_) hj
      exact takes1_cut (signN_lt _ (i64_bd i.x).1 (i64_bd i.x).2) hj
    rw [if_neg hne]; exact hne
theorem itsL_ok : ∀ (l : List It) (acc : List It) (r : List UInt8), l.all okB = true → itsL l.length acc (l.flatMap itB ++ r) = (0, acc ++ l, r)
  | [], acc, r, _ => by simp [itsL]
  | i :: l, acc, r, h => by
    simp only [List.all_cons, Bool.and_eq_true] at h
    rw [List.length_cons, List.flatMap_cons, List.append_assoc]
    conv => lhs; unfold itsL
    rw [oneL_it _ h.1, if_pos rfl, itsL_ok l _ r h.2]
    simp
theorem itsL_cut : ∀ (l : List It) (acc : List It) (j : Nat), l.all okB = true → j < (l.flatMap itB).length → (itsL l.length acc ((l.flatMap itB).take j)).1 ≠ 0
  | [], _, j, _, hj => by simp at hj
  | i :: l, acc, j, h, hj => by
    simp only [List.all_cons, Bool.and_eq_true] at h
    rw [List.length_cons, List.flatMap_cons]
    by_cases hlt : j < (itB i).length
    · rw [List.take_append_of_le_length (by omega)]
      unfold itsL
      rw [if_neg (oneL_cut hlt)]
      exact oneL_cut hlt
    · rw [List.take_append, List.take_of_length_le (by omega)]
      conv => lhs; unfold itsL
      rw [oneL_it _ h.1, if_pos rfl]
      exact itsL_cut l _ _ h.2 (by rw [List.flatMap_cons, List.length_append] at hj; omega)
theorem may_all {l : List It} (h : bytesE l = 0) : l.length ≤ 2000 ∧ l.all okB = true := by
  unfold bytesE at h
  by_cases h1 : 2000 < l.length
  · rw [if_pos h1] at h; cases h
  · rw [if_neg h1] at h
    refine ⟨by omega, ?_⟩
    cases ha : l.all okB
    · rw [ha] at h; simp at h
    · rfl
theorem readL_row {l : List It} (r : List UInt8) (h : bytesE l = 0) : readL (itemsB l ++ r) = if r.length = 0 then (0, l) else (3, []) := by
  obtain ⟨h1, h2⟩ := may_all h
  have ht := takeL_numB l.length (l.flatMap itB ++ r) (by omega)
  have hi := itsL_ok l [] r h2
  unfold readL
  rw [show itemsB l ++ r = numB l.length ++ (l.flatMap itB ++ r) by simp [itemsB], ht]
  simp only [ne_eq, not_true, if_false, List.drop_left', hi, List.nil_append]
  rw [if_neg (by omega)]
  by_cases hr : r.length = 0
  · rw [if_pos ⟨hr, h2⟩, if_pos hr]
  · rw [if_neg (fun h => hr h.1), if_neg hr]
theorem readL_cut {l : List It} {j : Nat} (h : bytesE l = 0) (hj : j < (itemsB l).length) : (readL ((itemsB l).take j)).1 ≠ 0 := by
  obtain ⟨h1, h2⟩ := may_all h
  unfold readL
  by_cases hlt : j < (numB l.length).length
  · have e : (itemsB l).take j = (numB l.length).take j := by unfold itemsB; rw [List.take_append_of_le_length (by omega)]
    have hn : (takeL ((numB l.length).take j)).2.2 ≠ 0 := by rw [takeL_cut (by omega) hlt]; decide
    rw [e, if_pos hn]; exact hn
  · have e : (itemsB l).take j = numB l.length ++ (l.flatMap itB).take (j - (numB l.length).length) := by
      unfold itemsB; rw [List.take_append, List.take_of_length_le (by omega)]
    have hc := itsL_cut l [] (j - (numB l.length).length) h2 (by unfold itemsB at hj; rw [List.length_append] at hj; omega)
    rw [e, takeL_numB l.length _ (by omega)]
    simp only [ne_eq, not_true, if_false, List.drop_left']
    rw [if_neg (by omega), if_pos hc]
    exact hc
end Go.Proofs.YtfmjgkfblejknaaGreat

/-
  Plain laws of frames; the walk of the laws' own test.
-/
namespace Go.Proofs.YtfmjgkfblejknaaGreat
open Go.RowKit
set_option linter.unusedVariables false
set_option linter.unusedSimpArgs false

theorem openE_seal (l : List UInt8) : openE (sealB l) = 0 := by
  have h : (sealB l).length - 4 = l.length := by rw [sealB_len]; omega
  have h2 : (sealB l).take l.length = l := by unfold sealB; rw [List.take_left]
  unfold openE
  rw [if_neg (by rw [sealB_len]; omega), h, h2, if_pos rfl]
theorem openL_seal (l : List UInt8) : openL (sealB l) = l := by
  unfold openL
  rw [if_pos (openE_seal l), sealB_len, Nat.add_sub_cancel]
  unfold sealB; rw [List.take_left]
theorem byteOf_nat (k : Nat) (h : k < 256) : (byteOf (k : Int)).toNat = k := by
  unfold byteOf
  rw [show ((k : Int) % 256).toNat = k by omega]
  simp; omega
/-- a frame that stands at the beginning is taken -/
theorem takeR_frame (k : Nat) (l rest : List UInt8) (hk1 : 1 ≤ k) (hk2 : k ≤ 100) (hl : l.length ≤ 60000) : takeR (frameB (k : Int) l ++ rest) = (0, k, l, l.length + 12) := by
  have e : frameB (k : Int) l ++ rest = sealB (headB (k : Int) l.length) ++ (sealB l ++ rest) := by simp [frameB]
  have hh : (sealB (headB (k : Int) l.length)).length = 8 := by rw [sealB_len]; rfl
  have hlen : (frameB (k : Int) l ++ rest).length = 12 + l.length + rest.length := by rw [List.length_append, frameB_len]; omega
  have h8 : (frameB (k : Int) l ++ rest).take 8 = sealB (headB (k : Int) l.length) := by rw [e, ← hh, List.take_left]
  have hd : (frameB (k : Int) l ++ rest).drop 8 = sealB l ++ rest := by rw [e, ← hh, List.drop_left]
  have g : ∀ j, j < 4 → (frameB (k : Int) l ++ rest).getD j 0 = (headB (k : Int) l.length).getD j 0 := by
    intro j hj
    rw [e]
    unfold sealB
    simp only [List.getD_eq_getElem?_getD]
    rw [List.append_assoc, List.getElem?_append_left (by simpa [headB] using hj)]
  have hN : headN (frameB (k : Int) l ++ rest) = l.length := by
    unfold headN
    rw [g 1 (by omega), g 2 (by omega), g 3 (by omega)]
    have e1 : (l.length / 65536) % 256 * 65536 + (l.length / 256) % 256 * 256 + l.length % 256 = l.length := by omega
    simpa [headB, List.getD] using e1
  have h0 : ((frameB (k : Int) l ++ rest).getD 0 0).toNat = k := by rw [g 0 (by omega)]; exact byteOf_nat k (by omega)
  unfold takeR
  have ht : (sealB l ++ rest).take (l.length + 4) = sealB l := by rw [← sealB_len l, List.take_left]
  have ht2 : (sealB l ++ rest).take l.length = l := by unfold sealB; rw [List.append_assoc, List.take_left]
  rw [if_neg (by rw [hlen]; omega), h8, openE_seal, if_neg (by simp), h0, hN, if_neg (by omega), if_neg (by rw [hlen]; omega), hd, ht, openE_seal, if_neg (by simp), ht2]
theorem takeF_frame (b : List UInt8) (k : Nat) (l rest : List UInt8) (hk1 : 1 ≤ k) (hk2 : k ≤ 100) (hl : l.length ≤ 60000) : takeF (b ++ (frameB (k : Int) l ++ rest)) (b.length : Int) = (0, k, l, ((b.length + (l.length + 12) : Nat) : Int)) := by
  unfold takeF
  rw [if_neg (by simp; omega)]
  have e : (b ++ (frameB (k : Int) l ++ rest)).drop ((b.length : Int)).toNat = frameB (k : Int) l ++ rest := by simp
  rw [e, takeR_frame k l rest hk1 hk2 hl]
  simp

end Go.Proofs.YtfmjgkfblejknaaGreat

/-
  Plain laws of blocks; the walk of law11's awake.
-/
namespace Go.Proofs.YtfmjgkfblejknaaGreat.Rg
open Go Go.CheckFast Go.RowKit
section
variable {P : Program} {QN : Act → World → Prop} {X0 : Nat → Prop} {w0 : World} {S : World → Prop} {o : Oper} {rest : List Oper} {k : Nat} {Γ : List Ent} {b : Vs → Act} {out : List Out}
/-- opn, guarded and asked -/
theorem RK.gopn {g t : Nat} {x : Bool} (G : Value → World → Prop) (own : Value → Nat → Prop) (uses eats : List Nat)
    (hs : ∀ v w w', G v w → Sta (fun g => (g < w0.heap.size ∧ ¬ X0 g) ∨ own v g) w w' → G v w') (hg : o.guard = some (g, x)) (ht : ∀ vs, (b vs).tmps[t]? = some (.bool x))
    (h : ∀ vs w, Keeps X0 w0 w → S w → Fall Γ uses vs w → ∀ K : Act → World → Prop, Shut (∀ v w', G v w' → Keeps (fun g => ∃ p ∈ eats, Oof Γ p vs g) w w' → (∀ g, own v g → g < w'.heap.size ∧ (w.heap.size ≤ g ∨ ∃ p ∈ eats, Oof Γ p vs g)) → K ((b vs).put o.dst v) w') → o.wp P (b vs) w K (fun _ _ _ => False))
    (hr : RK P QN X0 w0 S rest (k + 1) (Γ ++ [⟨k, fun vs => G (vs k), fun vs => own (vs k)⟩]) (fun vs => (b vs).put o.dst (vs k)) out) : RK P QN X0 w0 S (o :: rest) k Γ b (⟨k, uses, eats, some (g, t), []⟩ :: out) :=
  .op (fun vs => G (vs k)) (fun vs => own (vs k)) uses eats [] (some (g, t)) (fun vs vs' he => by rw [he k List.mem_cons_self]; exact ⟨rfl, rfl⟩) (fun vs w w' hg hst => hs _ _ _ hg hst) (fun vs w hK hS hf => ⟨true, by simp only [Want, hg]; exact ⟨trivial, x, ht vs, by cases x <;> rfl⟩, fun K hKK => by
    rw [if_pos rfl]
    refine h vs w hK hS (Fall.mk hf) K (fun v w' h1 h2 h3 => hKK v w' ⟨?_, h2, fun g hg => h3 g ?_⟩)
    · show G (upd vs k v k) w'
      rw [upd_same]; exact h1
    · have hg' : own (upd vs k v k) g := hg
      rwa [upd_same] at hg'⟩) hr
/-- okU, guarded and asked -/
theorem RK.gokU {g t : Nat} {x : Bool} (uses : List Nat) {v : Value} (h : ∀ vs w, S w → Fall Γ uses vs w → (execOp (b vs).eval o).run P w = .ok (.value v) w) (hg : o.guard = some (g, x)) (ht : ∀ vs, (b vs).tmps[t]? = some (.bool x))
    (hr : RK P QN X0 w0 S rest (k + 1) Γ (fun vs => (b vs).put o.dst v) out) : RK P QN X0 w0 S (o :: rest) k Γ b (⟨k, uses, [], some (g, t), []⟩ :: out) :=
  .val v uses (some (g, t)) (fun vs w hK hS hf => ⟨true, .inl (by simp only [Want, hg]; exact ⟨trivial, x, ht vs, by cases x <;> rfl⟩), fun K hKK => by
    rw [if_pos rfl]
    unfold Oper.wp
    rw [h vs w hS (Fall.mk hf)]
    exact hKK.out w (Below.refl _ _)⟩) hr
end
end Go.Proofs.YtfmjgkfblejknaaGreat.Rg
namespace Go.Proofs.YtfmjgkfblejknaaGreat
open Go.RowKit
set_option linter.unusedVariables false
set_option linter.unusedSimpArgs false

def zit : It := ⟨0, 0, 0, 0, 0⟩
theorem zit_c : itc zit = [.int .i64 0, .int .i64 0, .int .u64 0, .int .u64 0, .int .i64 0] := by kernel_rfl
theorem zit_ok : okB zit = false := by decide +kernel
def zi (n : Nat) : Array Value := (itcs (List.replicate n zit)).toArray
theorem zi_made (n : Nat) : madeCells #[.int .i64 0, .int .i64 0, .int .u64 0, .int .u64 0, .int .i64 0] (n * 5) = zi n := by
  apply Array.ext'
  apply List.ext_getElem?
  intro q
  have hz : (zi n).toList = itcs (List.replicate n zit) := rfl
  rw [hz]
  by_cases hq : q < n * 5
  · have hk : q / 5 < (List.replicate n zit).length := by rw [List.length_replicate]; omega
    have h1 := itcs_at (List.replicate n zit) hk (j := q % 5) (by omega)
    rw [show q / 5 * 5 + q % 5 = q by omega] at h1
    rw [h1, List.getElem_replicate, zit_c]
    have h5 : q % 5 < 5 := by omega
    simp only [madeCells, Array.toList_map, Array.toList_range, List.getElem?_map, List.getElem?_range hq, Option.map_some]
    generalize q % 5 = j at h5
    match j, h5 with
    | 0, _ => rfl
    | 1, _ => rfl
    | 2, _ => rfl
    | 3, _ => rfl
    | 4, _ => rfl
  · rw [List.getElem?_eq_none (by simp [size_madeCells]; omega), List.getElem?_eq_none (by rw [itcs_length, List.length_replicate]; omega)]
theorem make_i (w : World) (n : Nat) (hn : n ≤ 1000000) : (Instr.makeSlice 23 (.int .i64 (n : Int)) (.int .i64 (n : Int))).run Tryz.prog w = .ok (.slice (some ⟨w.heap.size, 0, none⟩) n n) (w.alloc (.cells (zi n) 37)) := by
  obtain ⟨i, hi, hz, hs, hby⟩ := info_parts (P := Tryz.prog) (e := 37) (z := .agg #[.int .i64 0, .int .i64 0, .int .u64 0, .int .u64 0, .int .i64 0]) (size := 5) (bytes := 40) (by kernel_rfl)
  rw [run_make w _ _ i _ itemsT.ut hi hz .i64 .i64 (n : Int) (n : Int) (by omega) (Int.le_refl _) (by rw [hby]; omega) (by omega)]
  rw [hs, Int.toNat_natCast]
  exact congrArg (fun c => Result.ok (Value.slice (some ⟨w.heap.size, 0, none⟩) n n) (w.alloc (.cells c 37))) (zi_made n)
theorem zi_rd (w : World) (n : Nat) : Rd (w.alloc (.cells (zi n) 37)) (w.alloc (.cells (zi n) 37)).heap.size 5 (some ⟨w.heap.size, 0, none⟩) n (itcs (List.replicate n zit)) := by
  have := Rd.ilit_at w (List.replicate n zit) (zi n) 37 rfl rfl
  rwa [List.length_replicate] at this
/-- a block behind any bytes is taken as it was -/
theorem takeB_frame (b : List UInt8) {l : List It} (rest : List UInt8) (h : bErr l = 0) : takeB (b ++ (frameB 2 (itemsB l) ++ rest)) (b.length : Int) = (0, l, ((b.length + ((itemsB l).length + 12) : Nat) : Int)) := by
  obtain ⟨h1, h2, h3, h4, h5, h6⟩ := bErr_ok h
  have hle := itemsB_blk l h1
  have ht := takeF_frame b 2 (itemsB l) rest (by omega) (by omega) (by omega)
  have ht2 : takeF (b ++ (frameB 2 (itemsB l) ++ rest)) (b.length : Int) = (0, 2, itemsB l, ((b.length + ((itemsB l).length + 12) : Nat) : Int)) := ht
  have hq : readL (itemsB l) = (0, l) := by
    have h7 := readL_row [] h5
    rw [List.append_nil] at h7
    rw [h7]; rfl
  unfold takeB
  simp only [ht2, hq]
  rw [if_neg (by decide), if_neg (by decide), if_neg (by rintro (h | h); exact h rfl; exact h (by assumption))]
end Go.Proofs.YtfmjgkfblejknaaGreat

/-
  Opening arguments: a slice out of its elements.
-/
namespace Go.Proofs.YtfmjgkfblejknaaGreat
open Go.ChangeShapes Go.WideShapes Go.ChangeAt Go.RowKit Go.Deep
set_option linter.unusedVariables false

theorem flat_len {α : Type} (f : α → List Value) {sz : Nat} (hf : ∀ x, (f x).length = sz) (l : List α) : (l.flatMap f).length = l.length * sz := by
  induction l with
  | nil => simp
  | cons x l ih => rw [List.flatMap_cons, List.length_append, hf, ih, List.length_cons, Nat.add_mul]; omega
theorem flat_at {α : Type} (f : α → List Value) {sz : Nat} (hf : ∀ x, (f x).length = sz) (l : List α) {k : Nat} (hk : k < l.length) {j : Nat} (hj : j < sz) : (l.flatMap f)[k * sz + j]? = (f l[k])[j]? := by
  induction l generalizing k with
  | nil => simp at hk
  | cons x l ih =>
    cases k with
    | zero =>
      simp only [List.flatMap_cons, Nat.zero_mul, Nat.zero_add, List.getElem_cons_zero]
      rw [List.getElem?_append_left (by rw [hf]; exact hj)]
    | succ k =>
      have hk' : k < l.length := by simpa using hk
      have := ih hk'
      simp only [List.flatMap_cons, List.getElem_cons_succ]
      rw [List.getElem?_append_right (by rw [hf, Nat.add_mul]; omega), ← this]
      congr 1; rw [hf, Nat.add_mul]; omega

theorem add_at (b o k : Nat) : (⟨b, o, none⟩ : Addr).add k = ⟨b, o + k, none⟩ := by unfold Addr.add; split <;> simp_all
theorem rd_elems {α : Type} [Inhabited α] {W : World} (f : α → List Value) {sz : Nat} (hf : ∀ x, (f x).length = sz) (hsz : 0 < sz) {a : Addr} {len base : Nat}
    (h : ∀ i, i < len → ∃ cs', W.cells? base (a.add (i * sz)) sz = some cs' ∧ ∃ x, cs' = f x) : ∃ l : List α, l.length = len ∧ Rd W W.heap.size sz (some a) len (l.flatMap f) := by
  obtain ⟨g, hg⟩ := choose_lt (p := fun i x => W.cells? base (a.add (i * sz)) sz = some (f x)) (n := len) (fun i hi => by
    obtain ⟨cs', h1, x, rfl⟩ := h i hi
    exact ⟨x, h1⟩)
  refine ⟨(List.range len).map g, by simp, by rw [flat_len f hf]; simp, fun hn => ?_⟩
  obtain ⟨b, o, spot⟩ := a
  have h0 := (World.cells?_some (hg 0 hn)).2.2 0 hsz
  have hx0 : (f (g 0))[0]? = some ((f (g 0))[0]'(by rw [hf]; exact hsz)) := List.getElem?_eq_getElem _
  rw [hx0] at h0
  have add0 : ∀ a : Addr, a.add 0 = a := fun a => by simp [Addr.add]
  rw [Nat.zero_mul, add0, add0] at h0
  have hspot : spot = none := World.cell?_spot h0
  subst hspot
  have hb : b < W.heap.size := World.block_lt_of_cell? W _ h0
  refine ⟨b, o, rfl, hb, fun j u hu => ?_⟩
  have hj : j < len * sz := by
    have := (List.getElem?_eq_some_iff.1 hu).1
    rw [flat_len f hf] at this; simpa using this
  have hi : j / sz < len := by rw [Nat.div_lt_iff_lt_mul hsz]; exact hj
  have hr : j % sz < sz := Nat.mod_lt _ hsz
  have hjj : j = j / sz * sz + j % sz := by rw [Nat.mul_comm]; exact (Nat.div_add_mod j sz).symm
  have hc := (World.cells?_some (hg _ hi)).2.2 _ hr
  have e : ((⟨b, o, none⟩ : Addr).add (j / sz * sz)).add (j % sz) = ⟨b, o + j, none⟩ := by
    rw [add_at, add_at, Nat.add_assoc, ← hjj]
  rw [e] at hc
  have hfl := flat_at f hf ((List.range len).map g) (k := j / sz) (by simpa using hi) hr
  rw [← hjj] at hfl
  rw [hc, ← hu, hfl]
  simp

end Go.Proofs.YtfmjgkfblejknaaGreat

/-
  Opening arguments: slices of slices of bytes.
-/
namespace Go.Proofs.YtfmjgkfblejknaaGreat
open Go.ChangeShapes Go.WideShapes Go.ChangeAt Go.RowKit Go.Deep
set_option linter.unusedVariables false

/-- a slice of slices of bytes that came in -/
def IsR (w : World) (A : Option Addr) (n c : Nat) (ps : List Pt) : Prop := Rd w w.heap.size 1 A n (ps.map Pt.v) ∧ (∀ p ∈ ps, IsB w p.A p.n p.c p.l) ∧ n ≤ c ∧ c ≤ 9223372036854775807
section
variable {H : Type} {enc : TypeId × Value → H} {W : World} {sp : Nat → Bool} {a : Option Addr} {len cap : Nat} {d : DataW H} {p : List MemPlace}
theorem body_cells {fuel : Nat} {cs : List Value} {y : DataW H × List MemPlace} (hf : DataW.trod enc Tryz.prog W 0 (fun _ => true) true fuel 22 cs = some y) : ∃ p : Pt, cs = [p.v] ∧ IsB W p.A p.n p.c p.l := by
  rcases open_ints Tryz.underlying22 Tryz.underlying5 (by kernel_rfl) hf with ⟨hcs, _⟩ | ⟨x, l, c, zs, hcs, _, hl, hm, hz, _, hcell, hwz⟩
  · exact ⟨⟨none, 0, 0, []⟩, hcs, Rd.empty, by simp, by simp⟩
  · refine ⟨⟨some x, l, c, _⟩, hcs, rd_ints bv (fun n => UInt8.ofNat n.toNat) (fun n hn => ?_) hl (by simpa using hz) hcell hwz, hl, by simpa only [maxLen] using hm⟩
    have := bd_u8 hn
    rw [bv_ofNat]; congr 1; omega
instance : Inhabited { p : Pt // IsB W p.A p.n p.c p.l } := ⟨⟨⟨none, 0, 0, []⟩, Rd.empty, by simp, by simp⟩⟩
theorem is_r (h : DataW.Trod enc Tryz.prog W 0 (fun _ => true) true 126 (.slice a len cap) d p) : ∃ ps, IsR W a len cap ps := by
  obtain ⟨fuel, hf⟩ := h
  rcases open_slice Tryz.underlying126 hf with ⟨hcs, _⟩ | ⟨x, l, c, m, n, D, Pl, hcs, _, hl, hm, hmm, _, hx⟩
  · simp [Value.cells] at hcs
    obtain ⟨rfl, rfl, rfl⟩ := hcs
    exact ⟨[], Rd.empty, fun p hp => (by cases hp), by omega, by omega⟩
  · simp [Value.cells] at hcs
    obtain ⟨rfl, rfl, rfl⟩ := hcs
    have hC : Tryz.prog.cellsOf 22 = 1 := by kernel_rfl
    rw [hC] at hx
    obtain ⟨L, hL, hr⟩ := rd_elems (α := { p : Pt // IsB W p.A p.n p.c p.l }) (W := W) (len := len) (a := x) (base := 0) (fun p => [p.1.v]) (sz := 1) (fun _ => rfl) (by omega) (fun i hi => by
      obtain ⟨cs', h1, h2⟩ := hx i (by simp at hmm; omega)
      obtain ⟨p, e, hp⟩ := body_cells h2
      exact ⟨cs', h1, ⟨p, hp⟩, e⟩)
    refine ⟨L.map (·.1), ?_, fun p hp => ?_, hl, by simpa only [maxLen] using hm⟩
    · have e : (L.map (·.1)).map Pt.v = L.flatMap fun p => [p.1.v] := by
        clear hr hL
        induction L with
        | nil => rfl
        | cons q r ih => simp only [List.map_cons, List.flatMap_cons, List.singleton_append, ih]
      rw [e]; exact hr
    · obtain ⟨q, _, rfl⟩ := List.mem_map.1 hp
      exact q.2
end
end Go.Proofs.YtfmjgkfblejknaaGreat

/-
  The walk of the laws' made.
-/
namespace Go.Proofs.YtfmjgkfblejknaaGreat
open Go.RowKit
set_option linter.unusedVariables false
set_option linter.unusedSimpArgs false

/-- the kind of the record with this number -/
def kindOf (k : Nat) : Nat := k * 9 % 100 + 1
theorem kindOf_bd (k : Nat) : 1 ≤ kindOf k ∧ kindOf k ≤ 100 := by unfold kindOf; omega
/-- records, one behind the other, their kinds from number i on -/
def frsB : Nat → List (List UInt8) → List UInt8
  | _, [] => []
  | i, l :: r => frameB (kindOf i : Int) l ++ frsB (i + 1) r
theorem frsB_append : ∀ (i : Nat) (a b : List (List UInt8)), frsB i (a ++ b) = frsB i a ++ frsB (i + a.length) b
  | i, [], b => by simp [frsB]
  | i, l :: r, b => by rw [List.cons_append, frsB, frsB, frsB_append (i + 1) r b, List.append_assoc, List.length_cons]; congr 3; omega
theorem frsB_snoc (L : List (List UInt8)) {k : Nat} (hk : k < L.length) : frsB 0 (L.take (k + 1)) = frsB 0 (L.take k) ++ frameB (kindOf k : Int) (L[k]) := by
  rw [List.take_succ_eq_append_getElem hk, frsB_append, List.length_take, Nat.min_eq_left (by omega), Nat.zero_add]
  simp [frsB]
def endAt (L : List (List UInt8)) (k : Nat) : Nat := (frsB 0 (L.take k)).length
def endsL (L : List (List UInt8)) (k : Nat) : List Nat := (List.range (k + 1)).map (endAt L)
theorem endsL_snoc (L : List (List UInt8)) (k : Nat) : endsL L (k + 1) = endsL L k ++ [endAt L (k + 1)] := by
  unfold endsL; rw [List.range_succ, List.map_append]; rfl
theorem endAt_snoc (L : List (List UInt8)) {k : Nat} (hk : k < L.length) : endAt L (k + 1) = endAt L k + (L[k].length + 12) := by
  unfold endAt; rw [frsB_snoc L hk, List.length_append, frameB_len]

def ptls (ps : List Pt) : List (List UInt8) := ps.map (·.l)
/-- a slice of slices that came in: number k -/
theorem IsR.at_ {w : World} {A : Option Addr} {n c : Nat} {ps : List Pt} (h : IsR w A n c ps) {k : Nat} (hk : k < n) :
    ∃ b o p, A = some ⟨b, o, none⟩ ∧ ps[k]? = some p ∧ (ptls ps)[k]? = some p.l ∧ p.n ≤ p.c ∧ p.n = p.l.length ∧ p.c ≤ 9223372036854775807 ∧ ∀ W, Up w W → W.cell? ⟨b, o + k, none⟩ = some (.slice p.A p.n p.c) ∧ Rd W W.heap.size 1 p.A p.n (bvs p.l) := by
  obtain ⟨hr, hp, hc1, hc2⟩ := h
  have hn : n = ps.length := by have := hr.1; rw [List.length_map] at this; omega
  obtain ⟨b, o, e, hb, hc⟩ := hr.2 (by omega)
  have hkl : k < ps.length := by omega
  have hpm := hp ps[k] (List.getElem_mem _)
  refine ⟨b, o, ps[k], e, List.getElem?_eq_getElem hkl, by simp [ptls, hkl], hpm.2.1, hpm.1.blen, hpm.2.2, fun W hW => ⟨?_, hpm.1.up hW⟩⟩
  have h1 := hc k (ps[k]).v (by simp [hkl])
  exact (hW.cell (p := ⟨b, o + k, none⟩) hb).trans h1
theorem IsR.len {w : World} {A : Option Addr} {n c : Nat} {ps : List Pt} (h : IsR w A n c ps) : n = (ptls ps).length := by have := h.1.1; simp [ptls] at *; omega

end Go.Proofs.YtfmjgkfblejknaaGreat

/-
  Plain laws of rows of frames.
-/
namespace Go.Proofs.YtfmjgkfblejknaaGreat
open Go.RowKit
set_option linter.unusedVariables false
set_option linter.unusedSimpArgs false

def kindsL (i : Nat) (n : Nat) : List Nat := (List.range n).map fun j => kindOf (i + j)
theorem kindsL_len (i n : Nat) : (kindsL i n).length = n := by simp [kindsL]
theorem kindsL_succ (i n : Nat) : kindsL i (n + 1) = kindOf i :: kindsL (i + 1) n := by
  unfold kindsL
  rw [List.range_succ_eq_map, List.map_cons, List.map_map]
  congr 1
  apply List.map_congr_left
  intro j _
  show kindOf (i + (j + 1)) = kindOf (i + 1 + j)
  congr 1; omega
theorem frsB_pos {i : Nat} {l : List UInt8} {r : List (List UInt8)} : 0 < (frsB i (l :: r)).length := by rw [frsB, List.length_append, frameB_len]; omega
/-- Split goes over whole frames -/
theorem splitG_frs (l : List UInt8) : ∀ (L : List (List UInt8)) (i f : Nat) (pre rest : List UInt8) (ks : List Nat) (bs : List (List UInt8)), l = pre ++ (frsB i L ++ rest) → (∀ x ∈ L, x.length ≤ 60000) →
    splitG l (f + L.length) pre.length ks bs = splitG l f (pre.length + (frsB i L).length) (ks ++ kindsL i L.length) (bs ++ L)
  | [], i, f, pre, rest, ks, bs, _, _ => by simp [frsB, kindsL]
  | x :: L, i, f, pre, rest, ks, bs, h, hx => by
    have hkb := kindOf_bd i
    have hx1 := hx x List.mem_cons_self
    have hd : l.drop pre.length = frameB (kindOf i : Int) x ++ (frsB (i + 1) L ++ rest) := by
      rw [h, List.drop_left, frsB, List.append_assoc]
    have ht := takeR_frame (kindOf i) x (frsB (i + 1) L ++ rest) hkb.1 hkb.2 hx1
    have hlt : pre.length < l.length := by
      rw [h, frsB]; simp only [List.length_append, frameB_len]; omega
    rw [List.length_cons, show f + (L.length + 1) = (f + L.length) + 1 by omega]
    conv => lhs; unfold splitG
    rw [if_pos hlt, hd, ht, if_pos rfl]
    have h' : l = (pre ++ frameB (kindOf i : Int) x) ++ (frsB (i + 1) L ++ rest) := by rw [h, frsB]; simp
    have ih := splitG_frs l L (i + 1) f (pre ++ frameB (kindOf i : Int) x) rest (ks ++ [kindOf i]) (bs ++ [x]) h' (fun y hy => hx y (List.mem_cons_of_mem _ hy))
    have hpl : (pre ++ frameB (kindOf i : Int) x).length = pre.length + (x.length + 12) := by rw [List.length_append, frameB_len]
    rw [hpl] at ih
    simp only []
    rw [ih]
    congr 1
    · rw [frsB, List.length_append, frameB_len]; omega
    · rw [kindsL_succ, List.append_assoc]; rfl
    · rw [List.append_assoc]; rfl
/-- a frame that is cut is torn -/
theorem takeR_cut {k : Nat} {l : List UInt8} {j : Nat} (hk1 : 1 ≤ k) (hk2 : k ≤ 100) (hl : l.length ≤ 60000) (hj : j < (frameB (k : Int) l).length) : (takeR ((frameB (k : Int) l).take j)).1 = 4 := by
  have hfl := frameB_len (k : Int) l
  by_cases h8 : j < 8
  · unfold takeR
    rw [if_pos (by rw [List.length_take]; omega)]
  · have e : frameB (k : Int) l = sealB (headB (k : Int) l.length) ++ sealB l := rfl
    have hh : (sealB (headB (k : Int) l.length)).length = 8 := by rw [sealB_len]; rfl
    have hlen : ((frameB (k : Int) l).take j).length = j := by rw [List.length_take]; omega
    have ht8 : ((frameB (k : Int) l).take j).take 8 = sealB (headB (k : Int) l.length) := by
      rw [List.take_take, Nat.min_eq_left (by omega), e, ← hh, List.take_left]
    have g : ∀ q, q < 4 → ((frameB (k : Int) l).take j).getD q 0 = (headB (k : Int) l.length).getD q 0 := by
      intro q hq
      rw [take_getD _ (by omega), e]
      unfold sealB
      simp only [List.getD_eq_getElem?_getD]
      rw [List.append_assoc, List.getElem?_append_left (by simpa [headB] using hq)]
    have hN : headN ((frameB (k : Int) l).take j) = l.length := by
      unfold headN
      rw [g 1 (by omega), g 2 (by omega), g 3 (by omega)]
      have e1 : (l.length / 65536) % 256 * 65536 + (l.length / 256) % 256 * 256 + l.length % 256 = l.length := by omega
      simpa [headB, List.getD] using e1
    have h0 : (((frameB (k : Int) l).take j).getD 0 0).toNat = k := by rw [g 0 (by omega)]; exact byteOf_nat k (by omega)
    unfold takeR
    rw [if_neg (by rw [hlen]; omega), ht8, openE_seal, if_neg (by simp), h0, hN, if_neg (by omega), if_pos (by rw [hlen]; omega)]
/-- rows of frames that are cut: what Split tells -/
theorem split_cut (L : List (List UInt8)) (n k : Nat) (hL : ∀ x ∈ L, x.length ≤ 60000) (hn : n ≤ L.length) (h1 : endAt L n ≤ k) (h2 : n < L.length → k < endAt L (n + 1)) (hk : k ≤ endAt L L.length) :
    splitL ((frsB 0 L).take k) = (kindsL 0 n, L.take n, endAt L n, if k = endAt L n then 0 else 4) := by
  have hfull : endAt L L.length = (frsB 0 L).length := by unfold endAt; rw [List.take_length]
  have hsplit : frsB 0 L = frsB 0 (L.take n) ++ frsB n (L.drop n) := by
    conv => lhs; rw [← List.take_append_drop n L]
    rw [frsB_append, List.length_take, Nat.min_eq_left hn, Nat.zero_add]
  have hl : (frsB 0 L).take k = [] ++ (frsB 0 (L.take n) ++ (frsB n (L.drop n)).take (k - endAt L n)) := by
    rw [hsplit, List.take_append, List.nil_append]
    congr 1
    exact List.take_of_length_le h1
  have hlen : ((frsB 0 L).take k).length = k := by rw [List.length_take, ← hfull]; omega
  have hkn : n ≤ k := by
    have : ∀ n, n ≤ L.length → n ≤ endAt L n := by
      intro n
      induction n with
      | zero => intro _; omega
      | succ m ih => intro hm; have := ih (by omega); rw [endAt_snoc L (show m < L.length by omega)]; omega
    have := this n hn; omega
  have hgo := splitG_frs ((frsB 0 L).take k) (L.take n) 0 (k + 1 - n) [] _ [] [] hl (fun x hx => hL x (List.mem_of_mem_take hx))
  rw [List.length_take, Nat.min_eq_left hn, List.length_nil, Nat.zero_add, List.nil_append, List.nil_append, show k + 1 - n + n = k + 1 by omega] at hgo
  unfold splitL
  rw [hlen, hgo]
  have hend : (frsB 0 (L.take n)).length = endAt L n := rfl
  rw [hend]
  obtain ⟨f, hf⟩ : ∃ f, k + 1 - n = f + 1 := ⟨k - n, by omega⟩
  rw [hf]
  unfold splitG
  by_cases hke : k = endAt L n
  · rw [if_neg (by rw [hlen]; omega), if_pos hke]
  · rw [if_pos (by rw [hlen]; omega)]
    have hnl : n < L.length := by
      rcases Nat.lt_or_ge n L.length with h | h
      · exact h
      · have : n = L.length := by omega
        subst this; omega
    have hd : ((frsB 0 L).take k).drop (endAt L n) = (frameB (kindOf n : Int) L[n]).take (k - endAt L n) := by
      rw [hl, List.nil_append, ← hend, List.drop_left, hend, List.drop_eq_getElem_cons hnl, frsB]
      rw [List.take_append_of_le_length]
      have := h2 hnl
      rw [endAt_snoc L hnl] at this
      rw [frameB_len]; omega
    have hj : k - endAt L n < (frameB (kindOf n : Int) L[n]).length := by
      have := h2 hnl
      rw [endAt_snoc L hnl] at this
      rw [frameB_len]; omega
    have htk := takeR_cut (kindOf_bd n).1 (kindOf_bd n).2 (hL _ (List.getElem_mem hnl)) hj
    rw [hd, htk, if_neg (by decide), if_neg hke]
end Go.Proofs.YtfmjgkfblejknaaGreat
