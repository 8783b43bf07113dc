/-
  Texts of this claim, joined: RefW3, FrameW6, FrameW8, EditW10, EditLaw, EditReg, EditW16, Store, EditW17, EditW12, EditW5, EditW7, NumLaw, FrameW7.
-/
import Derived.Deep.QuietTactic
import Derived.BigQuiet
import Derived.IntWalk
import Derived.Laws.Tables
import Derived.Deep.Cut
import Derived.Test.YtokcaoaclheiiaaZ2
/-
  The walks of the document's answers for lists of numbers, and of the law's Same.
-/
namespace Go.Proofs.Ytokcaoaclheiiaa
open Go.RowKit
set_option linter.unusedVariables false

set_option maxRecDepth 100000 in
set_option maxHeartbeats 800000 in
theorem rlist_any (A : Option Addr) (m c : Nat) (q : List UInt64) (w : World) (hq : Rd w w.heap.size 1 A m (qvs q)) (hm : m ≤ 1099511627776) :
    Calls Try.prog 37 #[.slice A m c] w fun e w' => ∃ s : ByteArray, e = .returned (.string s) ∧ Hid (s.data.toList = listB q) ∧ Up w w' := by
  have HM := Lib.hid hq.qlen
  go_enter Try.func37, Try.ntmps37
  go_wp2_with fail
  refine (rnum_any m w (by omega)).mono ?_
  rintro e w1 ⟨s1, rfl, hs1, hu1⟩
  go_wp2_with fail
  go_loopw [3, 4] (fun t i wr => ∃ (k : Nat) (s : ByteArray), i = .int .i64 (k : Int) ∧ t = .string s ∧ k ≤ m ∧ s.size ≤ 10 + 10 * k ∧ Hid (s.data.toList = numB m ++ numsB (q.take k)) ∧ Up w wr) (fun _ i _ => m - (intOf i).toNat)
  case atStart =>
    refine ⟨0, s1, rfl, rfl, by omega, ?_, ?_, hu1⟩
    · have := numB_ten (n := m) (by omega); rw [size_str hs1.out]; omega
    · show _ = _; rw [hs1.out]; simp [numsB]
  case round =>
    obtain ⟨k, s, rfl, rfl, hk, hsz, hs, hu⟩ := hrel
    clear hs1 hu1
    by_cases hlt : k < m
    · obtain ⟨b, o, rfl, hb, hc⟩ := hq.num hlt
      have hc' := (hu.cell (p := ⟨b, o + k, none⟩) hb).trans hc
      clear hc
      have hqk : q.take (k + 1) = q.take k ++ [q.getD k 0] := by
        have : k < q.length := by have := HM.out; omega
        rw [List.take_succ_eq_append_getElem this]; simp [List.getD, this]
      generalize (q.getD k 0) = x at hc' hqk
      have HQ := Lib.hid hqk
      clear hqk
      have hx := x.toNat_lt
      go_wp2_with fail
      refine (rnum_any x.toNat wr (by omega)).mono ?_
      rintro e w2 ⟨s2, rfl, hs2, hu2⟩
      have hz2 : s2.size ≤ 10 := by rw [size_str hs2.out]; exact numB_ten hx
      have hzz : ¬ (9223372036854775807 < s.size + s2.size) := by omega
      go_wp2_with fail
      go_roundw
      case rel =>
        refine ⟨k + 1, s ++ s2, by go_num, rfl, by omega, ?_, ?_, hu.trans hu2⟩
        · simp only [ByteArray.size_append]; omega
        · show _ = _
          rw [HQ.out, numsB_snoc, ← List.append_assoc, ← hs.out, ← hs2.out]
          simp [ByteArray.data_append]
      case measure => simp [intOf]; omega
    · go_wp2
      go_ret
      have hk' : k = m := by omega
      refine ⟨s, rfl, ?_, hu⟩
      show _ = _
      rw [hs.out, hk', List.take_of_length_le (by have := HM.out; omega), HM.out]; rfl
end Go.Proofs.Ytokcaoaclheiiaa

/-
  The walk of frame.Take.
-/
namespace Go.Proofs.Ytokcaoaclheiiaa
open Go.RowKit
set_option linter.unusedVariables false
set_option linter.unusedSimpArgs false

/-- the length that a head tells -/
def headN (h : List UInt8) : Nat := (h.getD 1 0).toNat * 65536 + (h.getD 2 0).toNat * 256 + (h.getD 3 0).toNat
/-- what stands at the beginning of r: the error, the kind, the body, how many bytes -/
def takeR (r : List UInt8) : Nat × Nat × List UInt8 × Nat :=
  if r.length < 8 then (4, 0, [], 0)
  else if openE (r.take 8) ≠ 0 then (openE (r.take 8), 0, [], 0)
  else if (r.getD 0 0).toNat < 1 ∨ 100 < (r.getD 0 0).toNat ∨ 60000 < headN r then (3, 0, [], 0)
  else if r.length - 8 < headN r + 4 then (4, 0, [], 0)
  else if openE ((r.drop 8).take (headN r + 4)) ≠ 0 then (openE ((r.drop 8).take (headN r + 4)), 0, [], 0)
  else (0, (r.getD 0 0).toNat, (r.drop 8).take (headN r), headN r + 12)
/-- Take: the error, the kind, the body, where it ends -/
def takeF (l : List UInt8) (at_ : Int) : Nat × Nat × List UInt8 × Int :=
  if at_ < 0 ∨ (l.length : Int) < at_ then (1, 0, [], 0)
  else ((takeR (l.drop at_.toNat)).1, (takeR (l.drop at_.toNat)).2.1, (takeR (l.drop at_.toNat)).2.2.1, if (takeR (l.drop at_.toNat)).1 = 0 then at_ + (takeR (l.drop at_.toNat)).2.2.2 else 0)

theorem i64_or (a b : Nat) (ha : a < 4611686018427387904) (hb : b < 4611686018427387904) : bits .or .i64 (a : Int) (b : Int) = ((a ||| b : Nat) : Int) := by
  have hlt : a ||| b < 2 ^ 62 := Nat.or_lt_two_pow ha hb
  show IntKind.i64.wrap ((BitVec.ofInt 64 (a : Int) ||| BitVec.ofInt 64 (b : Int)).toNat : Int) = _
  rw [BitVec.toNat_or, BitVec.ofInt_natCast, BitVec.ofInt_natCast, BitVec.toNat_ofNat, BitVec.toNat_ofNat, Nat.mod_eq_of_lt (by omega), Nat.mod_eq_of_lt (by omega), IntKind.wrap_i64]
  omega
/-- the bytes of a length put together -/
theorem or_head (x1 x2 x3 : Nat) (h1 : x1 < 256) (h2 : x2 < 256) (h3 : x3 < 256) : bits .or .i64 (bits .or .i64 ((x1 : Int) * 65536) ((x2 : Int) * 256)) (x3 : Int) = ((x1 * 65536 + x2 * 256 + x3 : Nat) : Int) := by
  have e1 : (x1 : Int) * 65536 = ((x1 * 65536 : Nat) : Int) := by omega
  have e2 : (x2 : Int) * 256 = ((x2 * 256 : Nat) : Int) := by omega
  have a1 : x1 * 65536 ||| x2 * 256 = x1 * 65536 + x2 * 256 := by
    have := Nat.two_pow_add_eq_or_of_lt (i := 16) (b := x2 * 256) (by omega) x1
    rw [show 2 ^ 16 = 65536 from rfl, Nat.mul_comm 65536] at this
    exact this.symm
  have a2 : (x1 * 65536 + x2 * 256) ||| x3 = x1 * 65536 + x2 * 256 + x3 := by
    have := Nat.two_pow_add_eq_or_of_lt (i := 8) (b := x3) (by omega) (x1 * 256 + x2)
    rw [show 2 ^ 8 * (x1 * 256 + x2) = x1 * 65536 + x2 * 256 by omega] at this
    exact this.symm
  rw [e1, e2, i64_or _ _ (by omega) (by omega), a1, i64_or _ _ (by omega) (by omega), a2]
theorem take_getD (r : List UInt8) {k j : Nat} (h : j < k) : (r.take k).getD j 0 = r.getD j 0 := by
  simp only [List.getD_eq_getElem?_getD, List.getElem?_take, if_pos h]
/-- the four bytes of a head, in whatever grows out of that world -/
theorem four_held {w : World} {base n c : Nat} {A : Option Addr} {l : List UInt8} (h : OwnB w base A n c l) (hn : n = 4) : ∃ g, A = some ⟨g, 0, none⟩ ∧ ∀ W, Up w W →
    W.cell? ⟨g, 0, none⟩ = some (.int .u8 ((l.getD 0 0).toNat : Int)) ∧ W.cell? ⟨g, 1, none⟩ = some (.int .u8 ((l.getD 1 0).toNat : Int)) ∧ W.cell? ⟨g, 2, none⟩ = some (.int .u8 ((l.getD 2 0).toNat : Int)) ∧ W.cell? ⟨g, 3, none⟩ = some (.int .u8 ((l.getD 3 0).toNat : Int)) := by
  obtain ⟨g, rfl, _, hg⟩ := own_some h (by omega)
  refine ⟨g, rfl, fun W hW => ?_⟩
  have got : ∀ j, j < 4 → W.cell? ⟨g, j, none⟩ = some (.int .u8 ((l.getD j 0).toNat : Int)) := fun j hj => by
    obtain ⟨b, o, e, hb, hc⟩ := h.rd.byte (k := j) (by omega)
    injection e with e
    injection e with e1 e2
    subst e1; subst e2
    rw [Nat.zero_add] at hc
    exact (hW.cell (p := ⟨g, j, none⟩) hg).trans hc
  exact ⟨got 0 (by omega), got 1 (by omega), got 2 (by omega), got 3 (by omega)⟩

/-- what Take comes to: shut to the walk -/
def TkPost (t : Nat × Nat × List UInt8 × Nat) (k : Nat) (w : World) (e : Ending) (w' : World) : Prop :=
  ∃ A' n' c', e = .returned (.tuple #[.int .i64 (t.2.1 : Int), .slice A' n' c', .int .i64 (if t.1 = 0 then (k : Int) + t.2.2.2 else 0), .int .i64 (t.1 : Int)]) ∧ OwnB w' w.heap.size A' n' c' t.2.2.1 ∧ Up w w'
theorem TkPost.bad {r : Nat × Nat × List UInt8 × Nat} {E k : Nat} {w w' : World} (h : r = (E, 0, [], 0)) (hE : E ≠ 0) (hn : OwnB w' w.heap.size none 0 0 []) (hu : Up w w') : TkPost r k w (.returned (.tuple #[.int .i64 0, .slice none 0 0, .int .i64 0, .int .i64 (E : Int)])) w' := by
  subst h
  exact ⟨none, 0, 0, by simp [hE], hn, hu⟩

set_option maxRecDepth 100000 in
set_option maxHeartbeats 3200000 in
theorem ftake_core (A : Option Addr) (n c : Nat) (l : List UInt8) (k : Nat) (w : World) (hr : Rd w w.heap.size 1 A n (bvs l)) (hn : n ≤ 549755813888) (hc : n ≤ c) (hk : k ≤ n) :
    Calls Try.prog 67 #[.slice A n c, .int .i64 (k : Int)] w (TkPost (takeR (l.drop k)) k w) := by
  have nil0 : ∀ w0, OwnB w0 w.heap.size none 0 0 [] := fun w0 => World.ownsRow_nil _ _ _ _
  have NIL := Lib.hid nil0
  clear nil0
  have CUT := cut_from_b
  have hd := hr.bfrom (k := k) hk hc
  have HL : Hid ((l.drop k).length = n - k) := by show _ = _; have := hr.blen; rw [List.length_drop, this]
  generalize l.drop k = r at *
  have g0 : ¬ ((n : Int) < k) := by omega
  have g1 : (k : Int) ≤ n := by omega
  by_cases h8 : n - k < 8
  · have hv : takeR r = (4, 0, [], 0) := by unfold takeR; rw [if_pos (by rw [HL.out]; exact h8)]
    have HV := Lib.hid hv
    have g2 : (n : Int) - k < 8 := by omega
    clear hv
    go_enter Try.func67, Try.ntmps67
    go_wp2_with fail
    refine bodyPost_ret (v := .tuple #[.int .i64 0, .slice none 0 0, .int .i64 0, .int .i64 4]) (by simp [results, Try.results67, go_sem]) rfl ?_
    exact .bad (E := 4) HV.out (by omega) (NIL.out _) (Up.refl _)
  · have g2 : ¬ ((n : Int) - k < 8) := by omega
    have g3 : (8 : Int) ≤ (c : Int) - k := by omega
    have g4 : decide ((k : Int) < 0) = false := by simp
    have g5 : decide (((n - k : Nat) : Int) < 8) = false := by simp; omega
    have h84 := hd.bto (k := 8) (by omega)
    by_cases hE : openE (r.take 8) = 0
    · have hL : openL (r.take 8) = r.take 4 := by
        have hl8 : (r.take 8).length - 4 = 4 := by rw [List.length_take, HL.out]; omega
        unfold openL; rw [if_pos hE, hl8, List.take_take]; rfl
      have hb0 : (r.getD 0 0).toNat < 256 := (r.getD 0 0).toNat_lt
      have hb1 : (r.getD 1 0).toNat < 256 := (r.getD 1 0).toNat_lt
      have hb2 : (r.getD 2 0).toNat < 256 := (r.getD 2 0).toNat_lt
      have hb3 : (r.getD 3 0).toNat < 256 := (r.getD 3 0).toNat_lt
      have hT : takeR r = if (r.getD 0 0).toNat < 1 ∨ 100 < (r.getD 0 0).toNat ∨ 60000 < headN r then (3, 0, [], 0)
          else if r.length - 8 < headN r + 4 then (4, 0, [], 0)
          else if openE ((r.drop 8).take (headN r + 4)) ≠ 0 then (openE ((r.drop 8).take (headN r + 4)), 0, [], 0)
          else (0, (r.getD 0 0).toNat, (r.drop 8).take (headN r), headN r + 12) := by
        conv => lhs; unfold takeR
        rw [if_neg (by rw [HL.out]; exact h8), if_neg (by simpa using hE)]
      have hh : headN r = (r.getD 1 0).toNat * 65536 + (r.getD 2 0).toNat * 256 + (r.getD 3 0).toNat := rfl
      rw [hh, HL.out] at hT
      have CUT8 : ∀ W : World, (Instr.slice 43 (.slice (cutA A c k 1) (n - k) (c - k)) (some (.int .i64 8)) none none).run Try.prog W = .ok (.slice (cutA (cutA A c k 1) (c - k) 8 1) (n - k - 8) (c - k - 8)) W := fun W => cut_from_b W (cutA A c k 1) (n - k) (c - k) .i64 8 (by omega) (by omega)
      have hd8 := hd.bfrom (k := 8) (cap := c - k) (by omega) (by omega)
      have hl8 : (r.drop 8).length = n - k - 8 := by rw [List.length_drop, HL.out]
      have HE := Lib.hid hE
      have HO := Lib.hid hL
      have HT := Lib.hid hT
      have HL8 := Lib.hid hl8
      clear hL hE hT hh hl8
      go_enter Try.func67, Try.ntmps67
      go_wp2_with fail
      refine (open_any _ 8 _ (r.take 8) w h84 (by omega) (by omega)).mono ?_
      rintro e w1 ⟨A1, n1, c1, rfl, ho1, hu1⟩
      rw [HO.out] at ho1
      rw [HE.out]
      have hn1 : n1 = 4 := by have := ho1.len; rw [this, List.length_take, HL.out]; omega
      subst hn1
      obtain ⟨g, rfl, hc4⟩ := four_held ho1 rfl
      rw [take_getD r (by omega), take_getD r (by omega), take_getD r (by omega), take_getD r (by omega)] at hc4
      clear ho1
      generalize (r.getD 0 0).toNat = x0 at *
      generalize (r.getD 1 0).toNat = x1 at *
      generalize (r.getD 2 0).toNat = x2 at *
      generalize (r.getD 3 0).toNat = x3 at *
      generalize r.drop 8 = r2 at *
      obtain ⟨c0, -, -, -⟩ := hc4 w1 (Up.refl _)
      go_wp2_with fail
      have v1 : IntKind.i64.wrap (x1 : Int) = x1 := IntWalk.i64_in _ (by omega)
      have v2 : IntKind.i64.wrap (x2 : Int) = x2 := IntWalk.i64_in _ (by omega)
      have v3 : IntKind.i64.wrap (x3 : Int) = x3 := IntWalk.i64_in _ (by omega)
      have v4 : IntKind.i64.wrap ((x1 : Int) * 65536) = (x1 : Int) * 65536 := IntWalk.i64_in _ (by omega)
      have v5 : IntKind.i64.wrap ((x2 : Int) * 256) = (x2 : Int) * 256 := IntWalk.i64_in _ (by omega)
      have v6 := or_head x1 x2 x3 hb1 hb2 hb3
      have hNb : x1 * 65536 + x2 * 256 + x3 < 16777216 := by omega
      generalize hN : x1 * 65536 + x2 * 256 + x3 = N at v6 hNb
      have hT := HT.out
      rw [hN] at hT
      have HT2 := Lib.hid hT
      clear hN hT HT
      apply Rg.region_up _ (by kernel_rfl) (by kernel_rfl) hc4
      · intro QN hQN
        iterate 17 (apply Rg.RK.ok; (· intro vs w1 hS; go_simp; with_reducible rfl); (· rfl); simp only [Act.put, List.setIfInBounds_toArray, List.set_cons_zero, List.set_cons_succ, Nat.reduceAdd])
        apply Rg.RK.fin []
        intro vs w1 hK hS _
        refine hQN.out _ _ ?_
        clear hQN
        have hu2 := hu1.trans (keeps_up hK)
        clear v1 v2 v3 v4 v5 v6 hc4 c0 hS
        have fail3 : ∀ (h : x0 < 1 ∨ 100 < x0 ∨ 60000 < N), takeR r = (3, 0, [], 0) := fun h => by rw [HT2.out, if_pos h]
        have F3 := Lib.hid fail3
        clear fail3
        by_cases hx1 : x0 < 1
        · have g6 : decide ((x0 : Int) < 1) = true := by simp; omega
          go_wp2_with fail
          refine bodyPost_ret (v := .tuple #[.int .i64 0, .slice none 0 0, .int .i64 0, .int .i64 3]) (by simp [results, Try.results67, go_sem]) rfl ?_
          exact .bad (E := 3) (F3.out (.inl hx1)) (by omega) (NIL.out _) hu2
        have g6 : decide ((x0 : Int) < 1) = false := by simp; omega
        by_cases hx2 : 100 < x0
        · have g7 : decide (100 < (x0 : Int)) = true := by simp; omega
          go_wp2_with fail
          refine bodyPost_ret (v := .tuple #[.int .i64 0, .slice none 0 0, .int .i64 0, .int .i64 3]) (by simp [results, Try.results67, go_sem]) rfl ?_
          exact .bad (E := 3) (F3.out (.inr (.inl hx2))) (by omega) (NIL.out _) hu2
        have g7 : decide (100 < (x0 : Int)) = false := by simp; omega
        by_cases hx3 : 60000 < N
        · have g8 : decide (60000 < (N : Int)) = true := by simp; omega
          go_wp2_with fail
          refine bodyPost_ret (v := .tuple #[.int .i64 0, .slice none 0 0, .int .i64 0, .int .i64 3]) (by simp [results, Try.results67, go_sem]) rfl ?_
          exact .bad (E := 3) (F3.out (.inr (.inr hx3))) (by omega) (NIL.out _) hu2
        have g8 : decide (60000 < (N : Int)) = false := by simp; omega
        by_cases hx4 : n - k - 8 < N + 4
        · have hv : takeR r = (4, 0, [], 0) := by rw [HT2.out, if_neg (by omega), if_pos hx4]
          have HV := Lib.hid hv
          clear hv
          go_wp2_with fail
          refine bodyPost_ret (v := .tuple #[.int .i64 0, .slice none 0 0, .int .i64 0, .int .i64 4]) (by simp [results, Try.results67, go_sem]) rfl ?_
          exact .bad (E := 4) HV.out (by omega) (NIL.out _) hu2
        have hdt := (hd8.bto (k := N + 4) (by omega)).up hu2
        by_cases hx5 : openE (r2.take (N + 4)) = 0
        · have hv : takeR r = (0, x0, r2.take N, N + 12) := by rw [HT2.out, if_neg (by omega), if_neg (by omega), if_neg (by simpa using hx5)]
          have hL5 : openL (r2.take (N + 4)) = r2.take N := by
            have hl5 : (r2.take (N + 4)).length - 4 = N := by rw [List.length_take, HL8.out]; omega
            unfold openL; rw [if_pos hx5, hl5, List.take_take, Nat.min_eq_left (by omega)]
          have HV := Lib.hid hv
          have H5 := Lib.hid hx5
          have HL5 := Lib.hid hL5
          clear hv hx5 hL5
          go_wp2_with fail
          refine (open_any _ (N + 4) _ _ w1 hdt (by omega) (by omega)).mono ?_
          rintro e w3 ⟨A3, n3, c3, rfl, ho3, hu3⟩
          rw [H5.out]
          rw [HL5.out] at ho3
          have ho4 := own_base ho3 hu2.size
          have hu4 := hu2.trans hu3
          clear ho3 hdt hd8 hd hr h84
          go_wp2_with fail
          refine bodyPost_ret (v := .tuple #[.int .i64 (x0 : Int), .slice A3 n3 c3, .int .i64 ((k : Int) + 4 + 4 + N + 4), .int .i64 0]) (by simp [results, Try.results67, go_sem]) rfl ?_
          rw [HV.out]
          refine ⟨A3, n3, c3, ?_, ho4, hu4⟩
          have e12 : (k : Int) + 4 + 4 + N + 4 = (k : Int) + ((N + 12 : Nat) : Int) := by omega
          rw [e12]; rfl
        · have hv : takeR r = (openE (r2.take (N + 4)), 0, [], 0) := by rw [HT2.out, if_neg (by omega), if_neg (by omega), if_pos hx5]
          have HV := Lib.hid hv
          clear hv
          go_wp2_with fail
          refine (open_any _ (N + 4) _ _ w1 hdt (by omega) (by omega)).mono ?_
          rintro e w3 ⟨A3, n3, c3, rfl, ho3, hu3⟩
          generalize openE (r2.take (N + 4)) = E5 at *
          have hE5 : ¬ (E5 : Int) = 0 := by omega
          have hu4 := hu2.trans hu3
          clear ho3 hdt hd8 hd hr h84
          go_wp2_with fail
          refine bodyPost_ret (v := .tuple #[.int .i64 0, .slice none 0 0, .int .i64 0, .int .i64 (E5 : Int)]) (by simp [results, Try.results67, go_sem]) rfl ?_
          exact .bad HV.out hx5 (NIL.out _) hu4
      · kernel_rfl
    · have hv : takeR r = (openE (r.take 8), 0, [], 0) := by unfold takeR; rw [if_neg (by rw [HL.out]; exact h8), if_pos hE]
      have HV := Lib.hid hv
      clear hv
      go_enter Try.func67, Try.ntmps67
      go_wp2_with fail
      refine (open_any _ 8 _ (r.take 8) w h84 (by omega) (by omega)).mono ?_
      rintro e w1 ⟨A1, n1, c1, rfl, ho1, hu1⟩
      generalize openE (r.take 8) = E5 at *
      have hE5 : ¬ (E5 : Int) = 0 := by omega
      clear ho1 h84 hd hr
      go_wp2_with fail
      refine bodyPost_ret (v := .tuple #[.int .i64 0, .slice none 0 0, .int .i64 0, .int .i64 (E5 : Int)]) (by simp [results, Try.results67, go_sem]) rfl ?_
      exact .bad HV.out hE (NIL.out _) hu1

set_option maxRecDepth 100000 in
set_option maxHeartbeats 1600000 in
theorem ftake_any (A : Option Addr) (n c : Nat) (l : List UInt8) (at_ : Int) (w : World) (hr : Rd w w.heap.size 1 A n (bvs l)) (hn : n ≤ 549755813888) (hc : n ≤ c) :
    Calls Try.prog 67 #[.slice A n c, .int .i64 at_] w fun e w' => ∃ A' n' c', e = .returned (.tuple #[.int .i64 ((takeF l at_).2.1 : Int), .slice A' n' c', .int .i64 (takeF l at_).2.2.2, .int .i64 ((takeF l at_).1 : Int)]) ∧ OwnB w' w.heap.size A' n' c' (takeF l at_).2.2.1 ∧ Up w w' := by
  have hl := hr.blen
  by_cases h0 : at_ < 0 ∨ (n : Int) < at_
  · have hv : takeF l at_ = (1, 0, [], 0) := by unfold takeF; rw [if_pos (by rw [← hl]; exact h0)]
    have HV := Lib.hid hv
    clear hv
    rcases h0 with h0 | h0
    · go_enter Try.func67, Try.ntmps67
      go_wp2_with fail
      refine bodyPost_ret (v := .tuple #[.int .i64 0, .slice none 0 0, .int .i64 0, .int .i64 1]) (by simp [results, Try.results67, go_sem]) rfl ?_
      rw [HV.out]
      exact ⟨none, 0, 0, rfl, World.ownsRow_nil _ _ _ _, Up.refl _⟩
    · have h1 : ¬ at_ < 0 := by omega
      have hd1 : decide (at_ < 0) = false := by simp; omega
      go_enter Try.func67, Try.ntmps67
      go_wp2_with fail
      refine bodyPost_ret (v := .tuple #[.int .i64 0, .slice none 0 0, .int .i64 0, .int .i64 1]) (by simp [results, Try.results67, go_sem]) rfl ?_
      rw [HV.out]
      exact ⟨none, 0, 0, rfl, World.ownsRow_nil _ _ _ _, Up.refl _⟩
  · obtain ⟨k, rfl⟩ := Int.eq_ofNat_of_zero_le (show 0 ≤ at_ by omega)
    have hv : takeF l (k : Int) = ((takeR (l.drop k)).1, (takeR (l.drop k)).2.1, (takeR (l.drop k)).2.2.1, if (takeR (l.drop k)).1 = 0 then (k : Int) + (takeR (l.drop k)).2.2.2 else 0) := by
      unfold takeF; rw [if_neg (by rw [← hl]; exact h0)]; rfl
    refine (ftake_core A n c l k w hr hn hc (by omega)).mono ?_
    rintro e w' ⟨A', n', c', rfl, ho, hu⟩
    rw [hv]
    exact ⟨A', n', c', rfl, ho, hu⟩
end Go.Proofs.Ytokcaoaclheiiaa

/-
  The walks of the document's answers for sums and frames: Sum, Seal, Open, FrameOk, Frame.
-/
namespace Go.Proofs.Ytokcaoaclheiiaa
open Go.RowKit
set_option linter.unusedVariables false
set_option linter.unusedSimpArgs false

theorem u32_xor_poly (z : Nat) (hz : z < 4294967296) : bits .xor .u32 ((z : Int) / 2) 2197175160 = (((z / 2) ^^^ 2197175160 : Nat) : Int) := by
  rw [show (z : Int) / 2 = ((z / 2 : Nat) : Int) by omega, show (2197175160 : Int) = ((2197175160 : Nat) : Int) from rfl, u32_xor_nat _ _ (by omega) (by omega)]

set_option maxRecDepth 100000 in
set_option maxHeartbeats 1600000 in
theorem rsum_any (l : List UInt8) (w : World) (hn : l.length ≤ 9223372036854775807) :
    Calls Try.prog 63 #[.string (tx l)] w fun e w' => e = .returned (.int .u32 (sumC l : Int)) ∧ w = w' := by
  have hs := tx_list l
  have hsz : (tx l).size ≤ 9223372036854775807 := by rw [tx_size]; exact hn
  have HS := Lib.hid hs
  have HL := Lib.hid (tx_size l)
  clear hs
  generalize tx l = s at *
  go_enter Try.func63, Try.ntmps63
  go_wp2_with fail
  go_loop [3, 4, 5] (fun q i _ => ∃ (k : Nat) (x : Nat), i = .int .i64 (k : Int) ∧ q = .int .u32 (x : Int) ∧ x < 4294967296 ∧ k ≤ s.size ∧ Hid (addC 4294967295 (l.take k) = x)) (fun _ i _ => s.size - (intOf i).toNat)
  case atStart => exact ⟨0, 4294967295, rfl, rfl, by omega, by omega, rfl⟩
  case round =>
    obtain ⟨k, x, rfl, rfl, hx, hk, hH⟩ := hrel
    by_cases hlt : k < s.size
    · have hgd := getD_str HS.out hlt
      have hq : l.take (k + 1) = l.take k ++ [l.getD k 0] := by
        have : k < l.length := by have := HL.out; omega
        rw [List.take_succ_eq_append_getElem this]; simp [List.getD, this]
      generalize l.getD k 0 = b0 at hgd hq
      have hxb : bits .xor .u32 (x : Int) (b0.toNat : Int) = ((x ^^^ b0.toNat : Nat) : Int) := by
        have := b0.toNat_lt
        rw [u32_xor_nat _ _ hx (by omega)]
      have hb256 := b0.toNat_lt
      have HQ := Lib.hid hq
      have hx0 := xorB_lt b0 hx
      clear hq
      go_wp2_with fail
      clear hxb
      generalize hz0 : x ^^^ b0.toNat = z0 at *
      have HZ := Lib.hid hz0
      clear hz0
      go_loop [3, 5] (fun q j => ∃ (z : Nat) (jj : Nat), j = .int .i64 (jj : Int) ∧ q = .int .u32 (z : Int) ∧ z < 4294967296 ∧ jj ≤ 8 ∧ Hid (crcN (8 - jj) z = crcN 8 z0)) (fun _ j => 8 - (intOf j).toNat)
      case atStart => exact ⟨z0, 0, rfl, rfl, hx0, by omega, rfl⟩
      case round =>
        obtain ⟨z, jj, rfl, rfl, hz, hj, hcz⟩ := hrel
        by_cases hlt2 : jj < 8
        · have ha := u32_and_one z hz
          have hp := u32_xor_poly z hz
          have hsl := crcS_lt hz
          by_cases hodd : z % 2 = 1
          · rw [hodd] at ha
            have hcs : crcS z = (z / 2) ^^^ 2197175160 := by unfold crcS; rw [if_pos hodd]
            rw [← hcs] at hp
            have hcz2 : crcN (8 - (jj + 1)) (crcS z) = crcN 8 z0 := by rw [← hcz.out, show 8 - jj = (8 - (jj + 1)) + 1 by omega]; rfl
            have HC := Lib.hid hcz2
            clear hcz2 hcs
            generalize crcS z = y at *
            go_wp2_with fail
            go_round
            case rel => exact ⟨y, jj + 1, by go_num, rfl, hsl, by omega, HC.out⟩
            case measure => simp [intOf]; omega
          · have h0 : z % 2 = 0 := by omega
            rw [h0] at ha
            have hcs : crcS z = z / 2 := by unfold crcS; rw [if_neg hodd]
            have hcz2 : crcN (8 - (jj + 1)) (z / 2) = crcN 8 z0 := by rw [← hcz.out, show 8 - jj = (8 - (jj + 1)) + 1 by omega, ← hcs]; rfl
            have HC := Lib.hid hcz2
            clear hcz2 hcs hp
            go_wp2_with fail
            go_round
            case rel => exact ⟨z / 2, jj + 1, by go_num, by go_num, by omega, by omega, HC.out⟩
            case measure => simp [intOf]; omega
        · have h8 : jj = 8 := by omega
          subst h8
          go_wp2_with fail
          go_round
          case rel =>
            refine ⟨k + 1, z, by go_num, rfl, hz, by omega, ?_⟩
            show _ = _
            rw [HQ.out, addC_append, hH.out]
            show crcN 8 (x ^^^ b0.toNat) = z
            rw [HZ.out, ← hcz.out]; rfl
          case measure => simp [intOf]; omega
    · have hk' : k = l.length := by have := HL.out; omega
      rw [hk', List.take_of_length_le (Nat.le_refl _)] at hH
      have hnot := u32_not x hx
      have hv : sumC l = 4294967295 - x := by unfold sumC; rw [hH.out]
      have HV := Lib.hid hv
      clear hv
      go_wp2_with fail
      go_ret
      rw [HV.out]
      exact ⟨rfl, rfl⟩

theorem four_str (x0 x1 x2 x3 : Value) (l : List UInt8) (hl : [x0, x1, x2, x3] = bvs l) (W : World) (g : Nat) (h0 : W.cell? ⟨g, 0, none⟩ = some x0) (h1 : W.cell? ⟨g, 1, none⟩ = some x1) (h2 : W.cell? ⟨g, 2, none⟩ = some x2) (h3 : W.cell? ⟨g, 3, none⟩ = some x3) :
    (convert 43 9 (.slice (some ⟨g, 0, none⟩) 4 4)).run Try.prog W = .ok (.string (tx l)) W := by
  refine run_str (B := g + 1) 4 ⟨by rw [← hl]; rfl, fun _ => ⟨g, 0, rfl, by omega, fun j u hj => ?_⟩⟩
  rw [← hl] at hj
  match j with
  | 0 => simp at hj; rw [← hj, Nat.zero_add, h0]
  | 1 => simp at hj; rw [← hj, Nat.zero_add, h1]
  | 2 => simp at hj; rw [← hj, Nat.zero_add, h2]
  | 3 => simp at hj; rw [← hj, Nat.zero_add, h3]
  | j + 4 => simp at hj
theorem sumB_v (y : Nat) (hy : y < 4294967296) : ([.int .u8 ((y : Int) % 256), .int .u8 ((y : Int) / 256 % 256), .int .u8 ((y : Int) / 65536 % 256), .int .u8 ((y : Int) / 16777216)] : List Value) = bvs (sumB y) := by
  have e1 : (y : Int) % 256 = ((y % 256 : Nat) : Int) := by omega
  have e2 : (y : Int) / 256 % 256 = ((y / 256 % 256 : Nat) : Int) := by omega
  have e3 : (y : Int) / 65536 % 256 = ((y / 65536 % 256 : Nat) : Int) := by omega
  have e4 : (y : Int) / 16777216 = ((y / 16777216 % 256 : Nat) : Int) := by omega
  simp only [bvs, sumB, List.map_cons, List.map_nil, bv_ofNat, e1, e2, e3, e4]

set_option maxRecDepth 100000 in
set_option maxHeartbeats 1600000 in
theorem rseal_any (l : List UInt8) (w : World) (hn : l.length ≤ 1099511627776) :
    Calls Try.prog 52 #[.string (tx l)] w fun e w' => e = .returned (.string (tx (sealB l))) ∧ Up w w' := by
  have hy := sumC_lt l
  have hb := sumB_v (sumC l) hy
  have hv : tx l ++ tx (sumB (sumC l)) = tx (sealB l) := tx_append' _ _
  have hz1 := tx_size l
  have hz2 := tx_size (sumB (sumC l))
  have hsl := sumB_len (sumC l)
  have hsz : ¬ (9223372036854775807 < (tx l).size + (tx (sumB (sumC l))).size) := by omega
  have FS := four_str _ _ _ _ _ hb
  have HV := Lib.hid hv
  clear hb hz1 hz2 hsl hv
  go_enter Try.func52, Try.ntmps52
  go_wp2_with fail
  refine (rsum_any l w (by omega)).mono ?_
  rintro e w1 ⟨rfl, rfl⟩
  generalize sumC l = y at *
  have hc : ∀ j, (w.alloc (.cells #[.int .u8 ((y : Int) % 256), .int .u8 ((y : Int) / 256 % 256), .int .u8 ((y : Int) / 65536 % 256), .int .u8 ((y : Int) / 16777216)] 5)).cell? ⟨w.heap.size, j, none⟩ = #[Value.int .u8 ((y : Int) % 256), .int .u8 ((y : Int) / 256 % 256), .int .u8 ((y : Int) / 65536 % 256), .int .u8 ((y : Int) / 16777216)][j]? := fun j => World.cell?_alloc_at _ _ _ _ rfl
  have FS1 := FS _ _ (hc 0) (hc 1) (hc 2) (hc 3)
  clear FS hc
  go_wp2_with fail
  go_ret
  rw [HV.out]
  exact ⟨rfl, (Up.refl _).alloc _⟩

theorem tx_take (l : List UInt8) (n : Nat) : (tx l).extract 0 n = tx (l.take n) := tx_of (by simp [tx_list])
set_option maxRecDepth 100000 in
set_option maxHeartbeats 1600000 in
theorem ropen_any (l : List UInt8) (w : World) (hn : l.length ≤ 1099511627776) :
    Calls Try.prog 60 #[.string (tx l)] w fun e w' => e = .returned (.tuple #[.string (tx (openL l)), .int .i64 (openE l : Int)]) ∧ Up w w' := by
  have hz := tx_size l
  by_cases h4 : l.length < 4
  · have hE : openE l = 4 := by unfold openE; rw [if_pos h4]
    have hL : openL l = [] := by unfold openL; rw [hE]; rfl
    have HE := Lib.hid hE
    have HO := Lib.hid hL
    clear hE hL
    have h4' : (tx l).size < 4 := by omega
    clear hz
    go_enter Try.func60, Try.ntmps60
    go_wp2_with fail
    go_ret2
    rw [HE.out, HO.out]
    exact ⟨rfl, Up.refl _⟩
  · have hx := tx_take l (l.length - 4)
    have h4' : (4 : Int) ≤ (tx l).size := by omega
    have hle : (tx l).size - 4 = l.length - 4 := by omega
    have hd : decide (((l.length : Nat) : Int) - 4 < 0) = false := by simp; omega
    by_cases hq : sealB (l.take (l.length - 4)) = l
    · have hE : openE l = 0 := by unfold openE; rw [if_neg h4, if_pos hq]
      have hL : openL l = l.take (l.length - 4) := by unfold openL; rw [hE]; rfl
      have HE := Lib.hid hE
      have HO := Lib.hid hL
      have hb := tx_beq hq
      clear hE hL hq
      go_enter Try.func60, Try.ntmps60
      go_wp2_with fail
      refine (rseal_any _ w (by simp; omega)).mono ?_
      rintro e w1 ⟨rfl, hu1⟩
      go_wp2_with fail
      go_ret2
      rw [HE.out, HO.out, ← hx]
      exact ⟨rfl, hu1⟩
    · have hE : openE l = 5 := by unfold openE; rw [if_neg h4, if_neg hq]
      have hL : openL l = [] := by unfold openL; rw [hE]; rfl
      have HE := Lib.hid hE
      have HO := Lib.hid hL
      have hb := tx_bne hq
      clear hE hL hq
      go_enter Try.func60, Try.ntmps60
      go_wp2_with fail
      refine (rseal_any _ w (by simp; omega)).mono ?_
      rintro e w1 ⟨rfl, hu1⟩
      go_wp2_with fail
      go_ret2
      rw [HE.out, HO.out]
      exact ⟨rfl, hu1⟩

set_option maxRecDepth 100000 in
set_option maxHeartbeats 1600000 in
theorem frameok_any (kind : Int) (n : Nat) (w : World) (hn : n ≤ 9223372036854775807) :
    Calls Try.prog 61 #[.int .i64 kind, .int .i64 (n : Int)] w fun e w' => e = .returned (.int .i64 (putE kind n : Int)) ∧ w = w' := by
  by_cases h1 : kind < 1
  · have hE : Hid (putE kind n = 1) := by show _ = _; unfold putE; rw [if_pos (.inl h1)]
    go_enter Try.func61, Try.ntmps61
    go_wp2_with fail
    go_ret
    rw [hE.out]; exact ⟨rfl, rfl⟩
  by_cases h2 : 100 < kind
  · have hE : Hid (putE kind n = 1) := by show _ = _; unfold putE; rw [if_pos (.inr h2)]
    go_enter Try.func61, Try.ntmps61
    go_wp2_with fail
    go_ret
    rw [hE.out]; exact ⟨rfl, rfl⟩
  by_cases h3 : 60000 < n
  · have hE : Hid (putE kind n = 2) := by show _ = _; unfold putE; rw [if_neg (by omega), if_pos h3]
    go_enter Try.func61, Try.ntmps61
    go_wp2_with fail
    go_ret
    rw [hE.out]; exact ⟨rfl, rfl⟩
  · have hE : Hid (putE kind n = 0) := by show _ = _; unfold putE; rw [if_neg (by omega), if_neg h3]
    go_enter Try.func61, Try.ntmps61
    go_wp2_with fail
    go_ret
    rw [hE.out]; exact ⟨rfl, rfl⟩

set_option maxRecDepth 100000 in
set_option maxHeartbeats 1600000 in
/-- Frame, of what may be -/
theorem rframe_any (kind : Int) (l : List UInt8) (w : World) (hk : 1 ≤ kind ∧ kind ≤ 100) (hn : l.length ≤ 60000) :
    Calls Try.prog 39 #[.int .i64 kind, .string (tx l)] w fun e w' => e = .returned (.string (tx (frameB kind l))) ∧ Up w w' := by
  obtain ⟨hk1, hk2⟩ := hk
  have hh : ([.int .u8 kind, .int .u8 ((l.length : Int) / 65536), .int .u8 ((l.length : Int) / 256), .int .u8 ((l.length : Int) % 256)] : List Value) = bvs (headB kind l.length) := by
    have e0 : kind = kind % 256 := by omega
    have e1 : (l.length : Int) / 65536 = ((l.length / 65536 % 256 : Nat) : Int) := by omega
    have e2 : (l.length : Int) / 256 = ((l.length / 256 % 256 : Nat) : Int) := by omega
    have e3 : (l.length : Int) % 256 = ((l.length % 256 : Nat) : Int) := by omega
    simp only [bvs, headB, List.map_cons, List.map_nil, bv_ofNat, bv_byteOf, e1, e2, e3, ← e0]
  have hv : tx (sealB (headB kind l.length)) ++ tx (sealB l) = tx (frameB kind l) := tx_append' _ _
  have hz0 := tx_size l
  have hz1 := tx_size (sealB (headB kind l.length))
  have hz2 := tx_size (sealB l)
  rw [sealB_len] at hz1 hz2
  have hsz : ¬ (9223372036854775807 < (tx (sealB (headB kind l.length))).size + (tx (sealB l)).size) := by rw [hz1, hz2]; simp [headB]; omega
  have FS := four_str _ _ _ _ _ hh
  have hc : ∀ j, (w.alloc (.cells #[.int .u8 kind, .int .u8 ((l.length : Int) / 65536), .int .u8 ((l.length : Int) / 256), .int .u8 ((l.length : Int) % 256)] 5)).cell? ⟨w.heap.size, j, none⟩ = #[Value.int .u8 kind, .int .u8 ((l.length : Int) / 65536), .int .u8 ((l.length : Int) / 256), .int .u8 ((l.length : Int) % 256)][j]? := fun j => World.cell?_alloc_at _ _ _ _ rfl
  have FS1 := FS _ _ (hc 0) (hc 1) (hc 2) (hc 3)
  have hl4 : (headB kind l.length).length = 4 := rfl
  have HV := Lib.hid hv
  clear hv hz1 hz2 FS hc hh
  generalize hH : headB kind l.length = H at *
  have HH := Lib.hid hH
  clear hH
  generalize hN : l.length = N at *
  have HN := Lib.hid hN
  clear hN
  go_enter Try.func39, Try.ntmps39
  go_wp2_with fail
  refine (rseal_any H _ (by omega)).mono ?_
  rintro e w1 ⟨rfl, hu1⟩
  go_wp2_with fail
  refine (rseal_any l _ (by rw [HN.out]; omega)).mono ?_
  rintro e w2 ⟨rfl, hu2⟩
  go_wp2_with fail
  go_ret
  rw [HV.out]
  exact ⟨rfl, (((Up.refl _).alloc _).trans hu1).trans hu2⟩
end Go.Proofs.Ytokcaoaclheiiaa

/-
  The walks of the document's EditMay and Edit.
-/
namespace Go.Proofs.Ytokcaoaclheiiaa
open Go.RowKit
set_option linter.unusedVariables false
set_option linter.unusedSimpArgs false

set_option maxRecDepth 100000 in
theorem rfileOk_any (x y : Int) (w : World) : Calls Try.prog 36 #[.agg #[.int .i64 x, .int .i64 y]] w fun e w' => e = .returned (.bool (fileOk (x, y))) ∧ Up w w' := by
  have hs : fileOk (x, y) = decide (0 ≤ x ∧ x ≤ 3 ∧ 1 ≤ y ∧ y ≤ 1073741824) := by
    unfold fileOk numOk
    rw [Bool.eq_iff_iff]
    simp only [Bool.and_eq_true, decide_eq_true_eq]
    omega
  have HS := Lib.hid hs
  clear hs
  go_enter Try.func36, Try.ntmps36
  go_wp2
  all_goals
    go_ret
    refine ⟨retb ?_, (Up.refl w).alloc _⟩
    rw [HS.out, Bool.eq_iff_iff]
    clear HS
    first | omega | (simp at *; done) | (simp at *; omega)
def mayN (b : Bool) : Nat := bif b then 0 else 1
set_option maxRecDepth 100000 in
set_option maxHeartbeats 1600000 in
theorem rmay_any (D : Option Addr) (dn dc : Nat) (ds : List Int) (A : Option Addr) (an ac : Nat) (add : List Fl) (lg : Int) (f ce at_ le : Nat) (w : World)
    (hd : Rd w w.heap.size 1 D dn (nmv ds)) (hdn : dn ≤ 9223372036854775807) (ha : Rd w w.heap.size 2 A an (fvs add)) (han : an ≤ 9223372036854775807) :
    Calls Try.prog 16 #[.agg #[.slice D dn dc, .slice A an ac, .int .i64 lg, .int .u64 (f : Int), .int .u64 (ce : Int), .int .u64 (at_ : Int), .int .u64 (le : Int)]] w fun e w' => e = .returned (.int .i64 (mayN (mayE ds add lg f ce at_ le) : Int)) ∧ Up w w' := by
  have hdl : dn = ds.length := by have := hd.1; rw [nmv_len] at this; omega
  have hal : an = add.length := ha.flen
  have hv : mayE ds add lg f ce at_ le = (decide (dn ≤ 40 ∧ an ≤ 40 ∧ 0 ≤ lg ∧ lg ≤ 1073741824 ∧ f ≤ 281474976710656 ∧ ce ≤ 281474976710656 ∧ at_ ≤ 281474976710656 ∧ le ≤ 281474976710656) && (ds.all numOk && add.all fileOk)) := by
    unfold mayE
    rw [← hdl, ← hal, Bool.eq_iff_iff]
    simp only [Bool.and_eq_true, decide_eq_true_eq, List.all_cons, List.all_nil, Bool.and_true, verOk]
    constructor
    · rintro ⟨a1, a2, a3, a4, ⟨a5, a6, a7, a8⟩, a9, a10⟩; exact ⟨⟨a1, a2, a3, a4, a5, a6, a7, a8⟩, a9, a10⟩
    · rintro ⟨⟨a1, a2, a3, a4, a5, a6, a7, a8⟩, a9, a10⟩; exact ⟨a1, a2, a3, a4, ⟨a5, a6, a7, a8⟩, a9, a10⟩
  have HV := Lib.hid hv
  have HDL := Lib.hid hdl
  have HAL := Lib.hid hal
  clear hv hdl hal
  obtain ⟨w1, hw1⟩ : ∃ w1, w1 = w.alloc (.cells #[.slice D dn dc, .slice A an ac, .int .i64 lg, .int .u64 (f : Int), .int .u64 (ce : Int), .int .u64 (at_ : Int), .int .u64 (le : Int)] 32) := ⟨_, rfl⟩
  have hup : Up w w1 := by rw [hw1]; exact (Up.refl w).alloc _
  have hb : w1.heap[w.heap.size]? = some (.cells #[.slice D dn dc, .slice A an ac, .int .i64 lg, .int .u64 (f : Int), .int .u64 (ce : Int), .int .u64 (at_ : Int), .int .u64 (le : Int)] 32 (0, 0)) := by rw [hw1]; exact heap_alloc_new w _
  have hd1 := hd.up hup
  have ha1 := ha.up hup
  clear hd ha
  have HW := Lib.hid hw1
  clear hw1
  by_cases hall : dn ≤ 40 ∧ an ≤ 40 ∧ 0 ≤ lg ∧ lg ≤ 1073741824 ∧ f ≤ 281474976710656 ∧ ce ≤ 281474976710656 ∧ at_ ≤ 281474976710656 ∧ le ≤ 281474976710656
  · rw [show decide (dn ≤ 40 ∧ an ≤ 40 ∧ 0 ≤ lg ∧ lg ≤ 1073741824 ∧ f ≤ 281474976710656 ∧ ce ≤ 281474976710656 ∧ at_ ≤ 281474976710656 ∧ le ≤ 281474976710656) = true by simp; omega, Bool.true_and] at HV
    obtain ⟨m1, m2, m3, m4, m5, m6, m7, m8⟩ := hall
    have d1 : ¬ (40 : Int) < (dn : Int) := by omega
    have d2 : ¬ (40 : Int) < (an : Int) := by omega
    have d3 : ¬ lg < 0 := by omega
    have d4 : ¬ 1073741824 < lg := by omega
    have d5 : ¬ (281474976710656 : Int) < (f : Int) := by omega
    have d6 : ¬ (281474976710656 : Int) < (ce : Int) := by omega
    have d7 : ¬ (281474976710656 : Int) < (at_ : Int) := by omega
    have d8 : ¬ (281474976710656 : Int) < (le : Int) := by omega
    go_enter Try.func16, Try.ntmps16
    go_wp2_with fail
    rw [← HW.out]
    clear HW d1 d2 d3 d4 d5 d6 d7 d8
    generalize w.heap.size = ge at hb ⊢
    go_loopw [3] (fun i wr => ∃ k : Nat, i = .int .i64 (k : Int) ∧ k ≤ dn ∧ Hid (∀ j (hj : j < k) (hl : j < ds.length), numOk ds[j] = true) ∧ Up w1 wr) (fun i _ => dn - (intOf i).toNat)
    case atStart => exact ⟨0, rfl, by omega, fun j hj => absurd hj (Nat.not_lt_zero _), Up.refl _⟩
    case round =>
      obtain ⟨k, rfl, hk, hal, hu⟩ := hrel
      have hb2 := (hu.block _ (Array.getElem?_eq_some_iff.1 hb).1).trans hb
      have t0 := blk_cell hb2 0
      by_cases hlt : k < dn
      · have hkl : k < ds.length := by have := HDL.out; omega
        obtain ⟨b, o, rfl, hbb, hc⟩ := (hd1.up hu).2 (by omega)
        have hck := hc k (.int .i64 ds[k]) (by simp [nmv, hkl])
        obtain ⟨x, hx⟩ : ∃ x, x = ds[k] := ⟨_, rfl⟩
        rw [← hx] at hck
        have HX := Lib.hid hx
        have hki : (k : Int) < (dn : Int) := by omega
        clear hx hc
        by_cases n1 : x < 1
        · go_wp2_with fail
          go_ret
          refine ⟨?_, hup.trans hu⟩
          have e : mayE ds add lg f ce at_ le = false := by
            have hf : ds.all numOk = false := by
              rw [List.all_eq_false]
              exact ⟨ds[k], List.getElem_mem _, by rw [← HX.out]; simp [numOk]; omega⟩
            rw [HV.out, hf]; rfl
          rw [e]; rfl
        · by_cases n2 : 1073741824 < x
          · go_wp2_with fail
            go_ret
            refine ⟨?_, hup.trans hu⟩
            have e : mayE ds add lg f ce at_ le = false := by
              have hf : ds.all numOk = false := by
                rw [List.all_eq_false]
                exact ⟨ds[k], List.getElem_mem _, by rw [← HX.out]; simp [numOk]; omega⟩
              rw [HV.out, hf]; rfl
            rw [e]; rfl
          · go_wp2_with fail
            clear hck t0
            go_roundw
            case rel =>
              refine ⟨k + 1, by go_num, by omega, ?_, hu⟩
              intro j hj hl
              by_cases hjk : j = k
              · subst hjk; rw [← HX.out]; simp [numOk]; omega
              · exact hal.out j (by omega) hl
            case measure => simp [intOf]; omega
      · have hdsall : ds.all numOk = true := by
          rw [List.all_eq_true]
          intro x hx
          obtain ⟨j, hj, rfl⟩ := List.getElem_of_mem hx
          exact hal.out j (by have := HDL.out; omega) hj
        rw [hdsall, Bool.true_and] at HV
        have hup2 := hup.trans hu
        have ha2 := ha1.up hu
        clear hdsall hal
        go_wp2_with fail
        clear t0
        go_loopw [4] (fun i wr2 => ∃ k : Nat, i = .int .i64 (k : Int) ∧ k ≤ an ∧ Hid (∀ j (hj : j < k) (hl : j < add.length), fileOk add[j] = true) ∧ Up wr wr2) (fun i _ => an - (intOf i).toNat)
        case atStart => exact ⟨0, rfl, by omega, fun j hj => absurd hj (Nat.not_lt_zero _), Up.refl _⟩
        case round =>
          obtain ⟨j, rfl, hj, hal, hu3⟩ := hrel
          have hb3 := (hu3.block _ (Array.getElem?_eq_some_iff.1 hb2).1).trans hb2
          have t1 := blk_cell hb3 1
          by_cases hlt2 : j < an
          · have hjl : j < add.length := by have := HAL.out; omega
            obtain ⟨b, o, x, rfl, hbb, hx, c0, c1⟩ := (ha2.up hu3).file_at hlt2
            rw [List.getElem?_eq_getElem hjl] at hx
            injection hx with hx
            have HX := Lib.hid hx
            have hji : (j : Int) < (an : Int) := by omega
            clear hx
            obtain ⟨x1, x2⟩ := x
            (try dsimp only at c0 c1)
            go_wp2_with fail
            clear t1 c0 c1
            refine (rfileOk_any x1 x2 wr).mono ?_
            rintro e w6 ⟨rfl, hu6⟩
            obtain ⟨bf, hbf⟩ : ∃ bf, bf = fileOk (x1, x2) := ⟨_, rfl⟩
            rw [← hbf]
            have HF := Lib.hid hbf
            clear hbf
            cases bf
            · go_wp2_with fail
              go_ret
              refine ⟨?_, (hup2.trans hu3).trans hu6⟩
              have e : mayE ds add lg f ce at_ le = false := by
                have hf : add.all fileOk = false := by
                  rw [List.all_eq_false]
                  exact ⟨add[j], List.getElem_mem _, by rw [HX.out, ← HF.out]; simp⟩
                rw [HV.out, hf]
              rw [e]; rfl
            · go_wp2_with fail
              go_roundw
              case rel =>
                refine ⟨j + 1, by go_num, by omega, ?_, hu3.trans hu6⟩
                intro q hq hl
                by_cases hjq : q = j
                · subst hjq; rw [HX.out, ← HF.out]
                · exact hal.out q (by omega) hl
              case measure => simp [intOf]; omega
          · go_wp2_with fail
            go_ret
            refine ⟨?_, hup2.trans hu3⟩
            have e : mayE ds add lg f ce at_ le = true := by
              rw [HV.out, List.all_eq_true]
              intro x hx
              obtain ⟨q, hq, rfl⟩ := List.getElem_of_mem hx
              exact hal.out q (by have := HAL.out; omega) hq
            rw [e]; rfl
  · have hno : mayE ds add lg f ce at_ le = false := by
      rw [HV.out, decide_eq_false hall]; rfl
    rw [hno]
    clear hno HV
    go_enter Try.func16, Try.ntmps16
    go_wp2
    all_goals first
      | (rw [← HW.out]; go_ret; exact ⟨rfl, hup⟩)
      | (exfalso; apply hall; refine ⟨?_, ?_, ?_, ?_, ?_, ?_, ?_, ?_⟩ <;> omega)
end Go.Proofs.Ytokcaoaclheiiaa

/-
  Plain laws of views and edits.
-/
namespace Go.Proofs.Ytokcaoaclheiiaa
open Go.RowKit
set_option linter.unusedVariables false
set_option linter.unusedSimpArgs false

theorem okTo_iff (l : List Fl) : ∀ k, k ≤ l.length → (okTo l k = true ↔ (∀ x ∈ l.take k, fileOk x = true) ∧ ((l.take k).map fun f => f.2).Nodup)
  | 0, _ => by simp [okTo]
  | k + 1, h => by
    have hk : k < l.length := by omega
    have hg : l.getD k (0, 0) = l[k] := by simp [List.getD, hk]
    rw [okTo_succ, hg, Bool.and_eq_true, Bool.and_eq_true, okTo_iff l k (by omega), List.take_succ_eq_append_getElem hk, List.map_append, List.nodup_append]
    simp only [List.mem_append, List.mem_singleton, List.map_cons, List.map_nil, Bool.not_eq_true', List.any_eq_false, decide_eq_true_eq, List.mem_map]
    constructor
    · rintro ⟨⟨h1, h2⟩, h3, h4⟩
      refine ⟨fun x hx => hx.elim (h1 x) (fun e => e ▸ h3), h2, by simp, ?_⟩
      rintro a ⟨x, hx, rfl⟩ b rfl
      exact h4 x hx
    · rintro ⟨h1, h2, _, h4⟩
      exact ⟨⟨fun x hx => h1 x (.inl hx), h2⟩, h1 _ (.inr rfl), fun x hx => h4 _ ⟨x, hx, rfl⟩ _ rfl⟩
theorem okAll_iff (l : List Fl) : okTo l l.length = true ↔ (∀ x ∈ l, fileOk x = true) ∧ (l.map fun f => f.2).Nodup := by
  have := okTo_iff l l.length (Nat.le_refl _)
  rwa [List.take_length] at this
theorem viewOk_iff (lg : Int) (l : List Fl) (f ce at_ le : Nat) : viewOk lg l f ce at_ le = true ↔ numOk lg = true ∧ l.length ≤ 40 ∧ [f, ce, at_, le].all verOk = true ∧ (∀ x ∈ l, fileOk x = true) ∧ (l.map fun f => f.2).Nodup := by
  unfold viewOk
  rw [Bool.and_eq_true, Bool.and_eq_true, Bool.and_eq_true, okAll_iff, decide_eq_true_iff]
  constructor
  · rintro ⟨⟨⟨h1, h2⟩, h3⟩, h4, h5⟩; exact ⟨h1, h2, h3, h4, h5⟩
  · rintro ⟨h1, h2, h3, h4, h5⟩; exact ⟨⟨⟨h1, h2⟩, h3⟩, h4, h5⟩
theorem updI_zero (x : Int) : updI 0 x = x := by unfold updI; split <;> omega
theorem updN_zero (x : Nat) : updN 0 x = x := by unfold updN; split <;> omega
theorem updI_same (x : Int) : updI x 0 = x := rfl
theorem updN_same (x : Nat) : updN x 0 = x := rfl
/-- a view is made of nothing by its whole edit -/
theorem apply_whole {lg : Int} {l : List Fl} {f ce at_ le : Nat} (h : viewOk lg l f ce at_ le = true) : applyR 0 [] 0 0 0 0 [] l lg f ce at_ le = some (lg, l, f, ce, at_, le) := by
  unfold applyR
  show (if viewOk (updI 0 lg) l (updN 0 f) (updN 0 ce) (updN 0 at_) (updN 0 le) = true then some (updI 0 lg, l, updN 0 f, updN 0 ce, updN 0 at_, updN 0 le) else none) = _
  rw [updI_zero, updN_zero, updN_zero, updN_zero, updN_zero, if_pos h]
theorem find_at {l : List Fl} (hn : (l.map fun f => f.2).Nodup) {k : Nat} (hk : k < l.length) : l.findIdx (fun f => decide (f.2 = l[k].2)) = k := by
  rw [List.findIdx_eq hk]
  refine ⟨by simp, fun j hj => ?_⟩
  rw [decide_eq_false_iff_not]
  intro e
  have hm : k < (l.map fun f => f.2).length := by simpa using hk
  have h2 := (List.getElem_inj (xs := l.map fun f => f.2) (i := j) (j := k) (h₀ := by simp; omega) (h₁ := hm) hn).1 (by simpa using e)
  omega
theorem drop_at {l : List Fl} (hn : (l.map fun f => f.2).Nodup) {k : Nat} (hk : k < l.length) : dropF l l[k].2 = some (l.eraseIdx k) := by
  unfold dropF
  rw [find_at hn hk, if_pos hk]
theorem nodup_split {l : List Fl} (hn : (l.map fun f => f.2).Nodup) {k : Nat} (hk : k < l.length) : ∀ x ∈ l.eraseIdx k, x.2 ≠ l[k].2 := by
  intro x hx e
  rw [List.mem_eraseIdx_iff_getElem] at hx
  obtain ⟨i, hi, hik, rfl⟩ := hx
  have h2 := (List.getElem_inj (xs := l.map fun f => f.2) (i := i) (j := k) (h₀ := by simpa using hi) (h₁ := by simpa using hk) hn).1 (by simpa using e)
  exact hik h2
theorem dropF_none {l : List Fl} {n : Int} (h : ∀ x ∈ l, x.2 ≠ n) : dropF l n = none := by
  unfold dropF
  rw [if_neg]
  intro hlt
  have h1 := List.findIdx_getElem (w := hlt)
  exact h _ (List.getElem_mem hlt) (by simpa using h1)
theorem erase_perm (l : List Fl) {k : Nat} (hk : k < l.length) : (l.eraseIdx k ++ [l[k]]).Perm l := by
  have h1 : l = l.take k ++ l[k] :: l.drop (k + 1) := by
    conv => lhs; rw [← List.take_append_drop k l, List.drop_eq_getElem_cons hk]
  have h2 : (l.take k ++ l[k] :: l.drop (k + 1)).Perm (l[k] :: (l.take k ++ l.drop (k + 1))) := List.perm_middle
  rw [← h1] at h2
  rw [List.eraseIdx_eq_take_drop_succ]
  exact (List.perm_append_singleton _ _).trans h2.symm
theorem erase_len (l : List Fl) {k : Nat} (hk : k < l.length) {x : Fl} : (l.eraseIdx k ++ [x]).length = l.length := by
  rw [List.length_append, List.length_eraseIdx, if_pos hk, List.length_singleton]; omega
/-- a file that is dropped and put back comes last -/
theorem apply_back {lg : Int} {l : List Fl} {f ce at_ le : Nat} (h : viewOk lg l f ce at_ le = true) {k : Nat} (hk : k < l.length) :
    applyR lg l f ce at_ le [l[k].2] [l[k]] 0 0 0 0 0 = some (lg, l.eraseIdx k ++ [l[k]], f, ce, at_, le) := by
  obtain ⟨h1, h2, h3, h4, h5⟩ := (viewOk_iff _ _ _ _ _ _).1 h
  have hp := erase_perm l hk
  have hv : viewOk lg (l.eraseIdx k ++ [l[k]]) f ce at_ le = true := by
    rw [viewOk_iff]
    refine ⟨h1, by rw [hp.length_eq]; exact h2, h3, fun x hx => h4 x (hp.mem_iff.1 hx), ?_⟩
    exact (hp.map fun f => f.2).nodup_iff.2 h5
  have hd : dropsF l [l[k].2] = some (l.eraseIdx k) := by
    show (dropF l l[k].2).bind _ = _
    rw [drop_at h5 hk]; rfl
  unfold applyR
  rw [hd]
  show (if viewOk lg (l.eraseIdx k ++ [l[k]]) f ce at_ le = true then _ else _) = _
  rw [if_pos hv]; rfl
theorem apply_twice {lg : Int} {l : List Fl} {f ce at_ le : Nat} (h : viewOk lg l f ce at_ le = true) {k : Nat} (hk : k < l.length) : applyR lg l f ce at_ le [l[k].2, l[k].2] [] 0 0 0 0 0 = none := by
  obtain ⟨h1, h2, h3, h4, h5⟩ := (viewOk_iff _ _ _ _ _ _).1 h
  have hd : dropsF l [l[k].2, l[k].2] = none := by
    show (dropF l l[k].2).bind _ = _
    rw [drop_at h5 hk]
    show (dropF (l.eraseIdx k) l[k].2).bind _ = _
    rw [dropF_none (nodup_split h5 hk)]; rfl
  unfold applyR
  rw [hd]
theorem apply_again {lg : Int} {l : List Fl} {f ce at_ le : Nat} {k : Nat} (hk : k < l.length) : applyR lg l f ce at_ le [] [l[k]] 0 0 0 0 0 = none := by
  have hv : ¬ viewOk lg (l ++ [l[k]]) f ce at_ le = true := by
    rw [viewOk_iff]
    rintro ⟨_, _, _, _, h5⟩
    rw [List.map_append, List.nodup_append] at h5
    exact h5.2.2 l[k].2 (List.mem_map.2 ⟨l[k], List.getElem_mem hk, rfl⟩) l[k].2 (by simp) rfl
  unfold applyR
  show (if viewOk lg (l ++ [l[k]]) f ce at_ le = true then _ else _) = _
  rw [if_neg hv]
theorem apply_ok {lg : Int} {l : List Fl} {f ce at_ le : Nat} {ds : List Int} {add : List Fl} {elg : Int} {ef ece eat ele : Nat} {x : Int × List Fl × Nat × Nat × Nat × Nat} (h : applyR lg l f ce at_ le ds add elg ef ece eat ele = some x) :
    viewOk x.1 x.2.1 x.2.2.1 x.2.2.2.1 x.2.2.2.2.1 x.2.2.2.2.2 = true := by
  unfold applyR at h
  split at h
  · cases h
  · split at h
    · injection h with h
      subst h
      assumption
    · cases h
end Go.Proofs.Ytokcaoaclheiiaa

/-
  Views in regions that draw: what a call of Apply hands back, and where it is laid.
-/
namespace Go.Proofs.Ytokcaoaclheiiaa
open Go.RowKit
set_option linter.unusedVariables false
set_option linter.unusedSimpArgs false

abbrev VT := Int × List Fl × Nat × Nat × Nat × Nat
def TV (x : VT) (R : Option Addr) (n : Nat) : Value := .agg #[.int .i64 x.1, .slice R n n, .int .u64 (x.2.2.1 : Int), .int .u64 (x.2.2.2.1 : Int), .int .u64 (x.2.2.2.2.1 : Int), .int .u64 (x.2.2.2.2.2 : Int)]
def TT (x : VT) (R : Option Addr) (n : Nat) : Value := .tuple #[TV x R n, .bool true]
theorem TT_inj {x : VT} {R R' : Option Addr} {n : Nat} (h : TT x R n = TT x R' n) : R = R' := by
  simp [TT, TV] at h
  exact h
def OwnT (x : VT) (n : Nat) (v : Value) (g : Nat) : Prop := ∃ o s, v = TT x (some ⟨g, o, s⟩) n
def GT (x : VT) (n B : Nat) (v : Value) (W : World) : Prop := ∃ R, v = TT x R n ∧ Rd W W.heap.size 2 R n (fvs x.2.1) ∧ ∀ a, R = some a → B ≤ a.block
theorem GT.sta {x : VT} {n B : Nat} {v : Value} {w w' : World} {Y : Nat → Prop} (h : GT x n B v w) (hs : Rg.Sta (fun g => Y g ∨ OwnT x n v g) w w') : GT x n B v w' := by
  obtain ⟨R, rfl, hrd, hb⟩ := h
  refine ⟨R, rfl, ⟨hrd.1, fun hn => ?_⟩, hb⟩
  obtain ⟨b, o, rfl, hlt, hc⟩ := hrd.2 hn
  exact ⟨b, o, rfl, Nat.lt_of_lt_of_le hlt hs.size, fun j u hu => sta_some hs (hc j u hu) (.inr ⟨o, none, rfl⟩)⟩
theorem Rd.keepsNe {w w' : World} {B sz n g : Nat} {A : Option Addr} {xs : List Value} (h : Rd w B sz A n xs) (hB : B ≤ w.heap.size) (hne : ∀ a, A = some a → a.block ≠ g) (hK : Rg.Keeps (fun y => y = g) w w') : Rd w' w'.heap.size sz A n xs := by
  refine ⟨h.1, fun hn => ?_⟩
  obtain ⟨b, o, rfl, hb, hc⟩ := h.2 hn
  refine ⟨b, o, rfl, Nat.lt_of_lt_of_le (Nat.lt_of_lt_of_le hb hB) hK.size, fun j u hu => ?_⟩
  exact (World.cell?_of_block (hK.block b (Nat.lt_of_lt_of_le hb hB) (hne _ rfl))).trans (hc j u hu)
/-- a view as it lies in a block of its own -/
structure VB (lg : Int) (l : List Fl) (f ce at_ le : Nat) (g : Nat) (A : Option Addr) (n : Nat) (w : World) : Prop where
  blk : w.heap[g]? = some (.cells #[.int .i64 lg, .slice A n n, .int .u64 (f : Int), .int .u64 (ce : Int), .int .u64 (at_ : Int), .int .u64 (le : Int)] 27 (0, 0))
  rd : Rd w w.heap.size 2 A n (fvs l)
theorem VB.up {lg : Int} {l : List Fl} {f ce at_ le g n : Nat} {A : Option Addr} {w w' : World} (h : VB lg l f ce at_ le g A n w) (hu : Up w w') : VB lg l f ce at_ le g A n w' :=
  ⟨(hu.block _ (Array.getElem?_eq_some_iff.1 h.blk).1).trans h.blk, h.rd.up hu⟩
theorem VB.lt {lg : Int} {l : List Fl} {f ce at_ le g n : Nat} {A : Option Addr} {w : World} (h : VB lg l f ce at_ le g A n w) : g < w.heap.size := (Array.getElem?_eq_some_iff.1 h.blk).1
theorem VB.len {lg : Int} {l : List Fl} {f ce at_ le g n : Nat} {A : Option Addr} {w : World} (h : VB lg l f ce at_ le g A n w) : n = l.length := h.rd.flen
end Go.Proofs.Ytokcaoaclheiiaa

/-
  The walk of the document's ViewOk.
-/
namespace Go.Proofs.Ytokcaoaclheiiaa
open Go.RowKit
set_option linter.unusedVariables false
set_option linter.unusedSimpArgs false

theorem okTo_here {l : List Fl} {k : Nat} (h1 : okTo l k = true) (h2 : fileOk (l.getD k (0, 0)) = true) (h3 : ∀ q, q < k → (l.getD q (0, 0)).2 ≠ (l.getD k (0, 0)).2) (hk : k < l.length) : okTo l (k + 1) = true := by
  rw [okTo_succ, h1, h2]
  have : ((l.take k).any fun g => decide (g.2 = (l.getD k (0, 0)).2)) = false := by
    rw [List.any_eq_false]
    intro x hx
    obtain ⟨q, hq, rfl⟩ := List.getElem_of_mem hx
    rw [List.length_take] at hq
    have h := h3 q (by omega)
    rw [List.getD_eq_getElem?_getD, List.getElem?_eq_getElem (by omega)] at h
    simpa using h
  rw [this]; rfl
theorem okTo_twice {l : List Fl} {k j : Nat} (hj : j < k) (hk : k < l.length) (h : (l.getD j (0, 0)).2 = (l.getD k (0, 0)).2) : okTo l (k + 1) = false := by
  rw [okTo_succ]
  have : ((l.take k).any fun g => decide (g.2 = (l.getD k (0, 0)).2)) = true := by
    rw [List.any_eq_true]
    refine ⟨l[j], ?_, ?_⟩
    · rw [List.mem_take_iff_getElem]
      exact ⟨j, by omega, rfl⟩
    · rw [List.getD_eq_getElem?_getD, List.getElem?_eq_getElem (show j < l.length by omega)] at h
      simpa using h
  rw [this]; simp
set_option maxRecDepth 100000 in
set_option maxHeartbeats 1600000 in
theorem rvok_any (lg : Int) (A : Option Addr) (n c : Nat) (l : List Fl) (f ce at_ le : Nat) (w : World) (hr : Rd w w.heap.size 2 A n (fvs l)) (hn : n ≤ 9223372036854775807) :
    Calls Try.prog 23 #[.agg #[.int .i64 lg, .slice A n c, .int .u64 (f : Int), .int .u64 (ce : Int), .int .u64 (at_ : Int), .int .u64 (le : Int)]] w fun e w' => e = .returned (.bool (viewOk lg l f ce at_ le)) ∧ Up w w' := by
  have hal : n = l.length := hr.flen
  have hv : viewOk lg l f ce at_ le = (decide (1 ≤ lg ∧ lg ≤ 1073741824 ∧ n ≤ 40 ∧ f ≤ 281474976710656 ∧ ce ≤ 281474976710656 ∧ at_ ≤ 281474976710656 ∧ le ≤ 281474976710656) && okTo l n) := by
    unfold viewOk
    rw [← hal, Bool.eq_iff_iff]
    simp only [Bool.and_eq_true, decide_eq_true_eq, List.all_cons, List.all_nil, Bool.and_true, verOk, numOk]
    constructor
    · rintro ⟨⟨⟨⟨a1, a2⟩, a3⟩, a5, a6, a7, a8⟩, a9⟩; exact ⟨⟨a1, a2, a3, a5, a6, a7, a8⟩, a9⟩
    · rintro ⟨⟨a1, a2, a3, a5, a6, a7, a8⟩, a9⟩; exact ⟨⟨⟨⟨a1, a2⟩, a3⟩, a5, a6, a7, a8⟩, a9⟩
  have HV := Lib.hid hv
  have HAL := Lib.hid hal
  clear hv hal
  obtain ⟨w1, hw1⟩ : ∃ w1, w1 = w.alloc (.cells #[.int .i64 lg, .slice A n c, .int .u64 (f : Int), .int .u64 (ce : Int), .int .u64 (at_ : Int), .int .u64 (le : Int)] 27) := ⟨_, rfl⟩
  have hup : Up w w1 := by rw [hw1]; exact (Up.refl w).alloc _
  have hb : w1.heap[w.heap.size]? = some (.cells #[.int .i64 lg, .slice A n c, .int .u64 (f : Int), .int .u64 (ce : Int), .int .u64 (at_ : Int), .int .u64 (le : Int)] 27 (0, 0)) := by rw [hw1]; exact heap_alloc_new w _
  have hr1 := hr.up hup
  clear hr
  have HW := Lib.hid hw1
  clear hw1
  by_cases hall : 1 ≤ lg ∧ lg ≤ 1073741824 ∧ n ≤ 40 ∧ f ≤ 281474976710656 ∧ ce ≤ 281474976710656 ∧ at_ ≤ 281474976710656 ∧ le ≤ 281474976710656
  · rw [show decide (1 ≤ lg ∧ lg ≤ 1073741824 ∧ n ≤ 40 ∧ f ≤ 281474976710656 ∧ ce ≤ 281474976710656 ∧ at_ ≤ 281474976710656 ∧ le ≤ 281474976710656) = true by simp; omega, Bool.true_and] at HV
    obtain ⟨m1, m2, m3, m5, m6, m7, m8⟩ := hall
    have d1 : ¬ (40 : Int) < (n : Int) := by omega
    have d3 : ¬ lg < 1 := by omega
    have d4 : ¬ 1073741824 < lg := by omega
    have d5 : ¬ (281474976710656 : Int) < (f : Int) := by omega
    have d6 : ¬ (281474976710656 : Int) < (ce : Int) := by omega
    have d7 : ¬ (281474976710656 : Int) < (at_ : Int) := by omega
    have d8 : ¬ (281474976710656 : Int) < (le : Int) := by omega
    go_enter Try.func23, Try.ntmps23
    go_wp2_with fail
    rw [← HW.out]
    clear HW d1 d3 d4 d5 d6 d7 d8
    generalize w.heap.size = ge at hb ⊢
    go_loopw [3] (fun i wr => ∃ k : Nat, i = .int .i64 (k : Int) ∧ k ≤ n ∧ Hid (okTo l k = true) ∧ Up w1 wr) (fun i _ => n - (intOf i).toNat)
    case atStart => exact ⟨0, rfl, by omega, rfl, Up.refl _⟩
    case round =>
      obtain ⟨k, rfl, hk, hok, hu⟩ := hrel
      have hb2 := (hu.block _ (Array.getElem?_eq_some_iff.1 hb).1).trans hb
      have t1 := blk_cell hb2 1
      by_cases hlt : k < n
      · have hkl : k < l.length := by have := HAL.out; omega
        obtain ⟨b, o, x, rfl, hbb, hx, c0, c1⟩ := (hr1.up hu).file_at hlt
        have hxD : l.getD k (0, 0) = x := by rw [List.getD_eq_getElem?_getD, hx]; rfl
        have HX := Lib.hid hxD
        have HKL := Lib.hid hkl
        have hki : (k : Int) < (n : Int) := by omega
        clear hx hxD hkl
        obtain ⟨x1, x2⟩ := x
        (try dsimp only at c0 c1)
        go_wp2_with fail
        clear t1
        refine (rfileOk_any x1 x2 wr).mono ?_
        rintro e w6 ⟨rfl, hu6⟩
        obtain ⟨bf, hbf⟩ : ∃ bf, bf = fileOk (x1, x2) := ⟨_, rfl⟩
        rw [← hbf]
        have HF := Lib.hid hbf
        clear hbf
        have hu16 := hu.trans hu6
        have hb6 := (hu16.block _ (Array.getElem?_eq_some_iff.1 hb).1).trans hb
        have hr6 := hr1.up hu16
        have c6 := (hu6.cell (p := ⟨b, o + k * 2 + 1, none⟩) hbb).trans c1
        have hbb6 : b < w6.heap.size := Nat.lt_of_lt_of_le hbb hu6.size
        clear c0 c1 hb2 hu hu6 hbb
        cases bf
        · go_wp2_with fail
          go_ret
          refine ⟨retb ?_, hup.trans hu16⟩
          have h1 : okTo l (k + 1) = false := by rw [okTo_succ, HX.out, ← HF.out, hok.out]; rfl
          rw [HV.out, okTo_false h1 (by omega)]
        · go_wp2_with fail
          go_loopw [4] (fun i wr2 => ∃ j : Nat, i = .int .i64 (j : Int) ∧ j ≤ k ∧ Hid (∀ q, q < j → (l.getD q (0, 0)).2 ≠ x2) ∧ Up w6 wr2) (fun i _ => k - (intOf i).toNat)
          case atStart => exact ⟨0, rfl, by omega, fun j hj => absurd hj (Nat.not_lt_zero _), Up.refl _⟩
          case round =>
            obtain ⟨j, rfl, hj, hne, hu3⟩ := hrel
            by_cases hjk : j < k
            · obtain ⟨b', o', y, hbo, hbb', hy, d0, d1⟩ := (hr6.up hu3).file_at (show j < n by omega)
              injection hbo with hbo
              injection hbo with e1 e2
              subst e1; subst e2
              have hyD : l.getD j (0, 0) = y := by rw [List.getD_eq_getElem?_getD, hy]; rfl
              have HY := Lib.hid hyD
              have hji : (j : Int) < (k : Int) := by omega
              have hjn : (j : Int) < (n : Int) := by omega
              obtain ⟨y1, y2⟩ := y
              (try dsimp only at d1)
              have hS : ∀ W, Up wr W → Up wr W ∧ W.cell? ⟨ge, 1, none⟩ = some (.slice (some ⟨b, o, none⟩) n c) ∧ W.cell? ⟨b, o + j * 2 + 1, none⟩ = some (.int .i64 y2) ∧ W.cell? ⟨b, o + k * 2 + 1, none⟩ = some (.int .i64 x2) := fun W hW =>
                ⟨hW, blk_cell (((hu3.trans hW).block _ (Array.getElem?_eq_some_iff.1 hb6).1).trans hb6) 1, (hW.cell (p := ⟨b, o + j * 2 + 1, none⟩) hbb').trans d1, ((hu3.trans hW).cell (p := ⟨b, o + k * 2 + 1, none⟩) hbb6).trans c6⟩
              clear hy hyD d0 d1
              go_wp2_with fail
              apply Rg.region_up _ (by kernel_rfl) (by kernel_rfl) hS
              · intro QN hQN
                iterate 13 (apply Rg.RK.ok; (· intro vs w1 hS; go_simp; with_reducible rfl); (· rfl); simp only [Act.put, List.setIfInBounds_toArray, List.set_cons_zero, List.set_cons_succ, Nat.reduceAdd])
                apply Rg.RK.fin []
                intro vs w1 hK hS _
                refine hQN.out _ _ ?_
                clear hQN
                by_cases hxy : y2 = x2
                · have hbq : (y2 == x2) = true := by simp [hxy]
                  clear hS
                  go_wp2_with fail
                  go_ret
                  refine ⟨retb ?_, (hup.trans hu16).trans (hu3.trans (keeps_up hK))⟩
                  have h1 : okTo l (k + 1) = false := okTo_twice hjk HKL.out (by rw [HY.out, HX.out]; exact hxy)
                  rw [HV.out, okTo_false h1 (by omega)]
                · have hbq : (y2 == x2) = false := by simp [hxy]
                  go_wp2_with fail
                  go_roundw
                  case rel =>
                    refine ⟨j + 1, by go_num, by omega, ?_, hu3.trans (keeps_up hK)⟩
                    intro q hq
                    by_cases hqj : q = j
                    · subst hqj; rw [HY.out]; exact hxy
                    · exact hne.out q (by omega)
                  case measure => simp [intOf]; omega
              · kernel_rfl
            · have hjk2 : j = k := by omega
              subst hjk2
              have hji : ¬ (j : Int) < (j : Int) := by omega
              go_wp2_with fail
              go_roundw
              case rel => exact ⟨j + 1, by go_num, by omega, okTo_here hok.out (by rw [HX.out]; exact HF.out.symm) (by rw [HX.out]; exact hne.out) HKL.out, hu16.trans hu3⟩
              case measure => simp [intOf]; omega
      · have hkn : k = n := by omega
        have hki : ¬ (k : Int) < (n : Int) := by omega
        go_wp2_with fail
        go_ret
        refine ⟨retb ?_, hup.trans hu⟩
        rw [hkn] at hok
        rw [HV.out, hok.out]
  · have hno : viewOk lg l f ce at_ le = false := by
      rw [HV.out, decide_eq_false hall]; rfl
    rw [hno]
    clear hno HV
    go_enter Try.func23, Try.ntmps23
    go_wp2
    all_goals first
      | (rw [← HW.out]; go_ret; exact ⟨rfl, hup⟩)
      | (exfalso; apply hall; refine ⟨?_, ?_, ?_, ?_, ?_, ?_, ?_⟩ <;> omega)
end Go.Proofs.Ytokcaoaclheiiaa

/-
  Stores as laws at the operation: behind one stands SOME world of which it is known what the block holds, and that nothing else turned.
-/
namespace Go.Proofs.Ytokcaoaclheiiaa
open Go.RowKit
set_option linter.unusedVariables false
set_option linter.unusedSimpArgs false

section
variable {P : Program} {ops : Array Oper} {rest : List Oper} {o : Oper} {a : Act} {w : World} {Q : Exit → Act → World → Prop}
/-- nothing but block g has turned -/
abbrev But (g : Nat) (w w' : World) : Prop := Rg.Keeps (fun x => x = g) w w'
theorem setRow_but (w : World) (g : Nat) (cs : Array Value) : But g w (w.setRow g cs) :=
  ⟨rfl, rfl, rfl, by simp, fun k _ hk => setRow_other w g k cs hk⟩
/-- a struct stored whole -/
theorem wpList_store_all (hgd : o.guard = none) (ty : TypeId) (x y : Operand) (ho : o.op = .store ty x y) {g : Nat} {cells : Array Value} (hx : a.eval x = .pointer (some ⟨g, 0, none⟩)) (hy : a.eval y = .agg cells)
    {t : TypeId} {old : Array Value} (hg : w.heap[g]? = some (.cells old t (0, 0))) (hi : (P.info? ty).map (·.size) = some cells.size)
    (hold : old.size = cells.size) (h1 : cells.all (·.oneCell') = true)
    (h : ∀ w', w'.heap[g]? = some (.cells cells t (0, 0)) → But g w w' → wpList P ops Q rest (a.put o.dst undef) w') : wpList P ops Q (o :: rest) a w :=
  wpList_store_row hgd ty x y ho g cells hx hy t old hg hi hold h1 (h _ (setRow_heap w g old cells t _ hg) (setRow_but w g cells))
theorem But.up {g : Nat} {w0 w w' : World} (hu : Up w0 w) (h : But g w w') (hg : w0.heap.size ≤ g) : Up w0 w' :=
  Below.trans hu ⟨h.os, h.tape, h.output, h.size, fun k hk => h.block k (Nat.lt_of_lt_of_le hk hu.size) (fun e => by have h9 : k = g := e; omega)⟩
theorem But.own {g : Nat} {w w' : World} (h : But g w w') {base : Nat} {e : TypeId} {sz n : Nat} {v : Value} {xs : List Value} (ho : w.ownsRow base e sz v n xs) (hv : v.ownBlock ≠ some g) : w'.ownsRow base e sz v n xs := by
  refine ⟨ho.1, ?_⟩
  rcases ho.2 with h2 | ⟨k, cap, cur, hk, hb, hh, r⟩
  · exact .inl h2
  · exact .inr ⟨k, cap, cur, hk, hb, (h.block k (Array.getElem?_eq_some_iff.1 hh).1 (fun e9 => by have h9 : k = g := e9; exact hv (by rw [hk, h9]; rfl))).trans hh, r⟩
end
end Go.Proofs.Ytokcaoaclheiiaa

/-
  The walk of the document's Apply.
-/
namespace Go.Proofs.Ytokcaoaclheiiaa
open Go.RowKit
set_option linter.unusedVariables false
set_option linter.unusedSimpArgs false

def RApPost (r : Option (Int × List Fl × Nat × Nat × Nat × Nat)) (w : World) (e : Ending) (w' : World) : Prop :=
  match r with
  | none => e = .returned (.tuple #[.agg #[.int .i64 0, .slice none 0 0, .int .u64 0, .int .u64 0, .int .u64 0, .int .u64 0], .bool false]) ∧ Up w w'
  | some x => ∃ R rn rc, e = .returned (.tuple #[.agg #[.int .i64 x.1, .slice R rn rc, .int .u64 (x.2.2.1 : Int), .int .u64 (x.2.2.2.1 : Int), .int .u64 (x.2.2.2.2.1 : Int), .int .u64 (x.2.2.2.2.2 : Int)], .bool true]) ∧ Rd w' w'.heap.size 2 R rn (fvs x.2.1) ∧ rn ≤ rc ∧ Up w w' ∧ ∀ a, R = some a → w.heap.size ≤ a.block ∧ a.block < w'.heap.size
/-- how it stands between the steps: the edit's box, the result's, the view's, and the row of its files -/
structure RAv (w : World) (ge gr go : Nat) (ev cs : Array Value) (R : Option Addr) (rn rc : Nat) (L : List Fl) (W : World) : Prop where
  up : Up w W
  hed : W.heap[ge]? = some (.cells ev 32 (0, 0))
  hgr : W.heap[gr]? = some (.cells #[.int .i64 0, .slice none 0 0, .int .u64 0, .int .u64 0, .int .u64 0, .int .u64 0] 27 (0, 0))
  hgo : W.heap[go]? = some (.cells cs 27 (0, 0))
  own : W.ownsRow (go + 1) 41 2 (.slice R rn rc) rn (fvs L)
theorem RAv.grow {w : World} {ge gr go : Nat} {ev cs : Array Value} {R : Option Addr} {rn rc : Nat} {L : List Fl} {W W' : World} (h : RAv w ge gr go ev cs R rn rc L W) (hu : Up W W') : RAv w ge gr go ev cs R rn rc L W' :=
  ⟨h.up.trans hu, (hu.block _ (Array.getElem?_eq_some_iff.1 h.hed).1).trans h.hed, (hu.block _ (Array.getElem?_eq_some_iff.1 h.hgr).1).trans h.hgr, (hu.block _ (Array.getElem?_eq_some_iff.1 h.hgo).1).trans h.hgo, own_up h.own hu⟩
theorem RAv.set {w : World} {ge gr go : Nat} {ev cs : Array Value} {R : Option Addr} {rn rc : Nat} {L : List Fl} {W : World} (h : RAv w ge gr go ev cs R rn rc L W) (j : Nat) (v : Value) (h0 : w.heap.size ≤ go) (h1 : ge ≠ go) (h2 : gr ≠ go) : RAv w ge gr go ev (cs.setIfInBounds j v) R rn rc L (W.setCell ⟨go, j, none⟩ v) := by
  have hK := setc_keeps W W go j v (Rg.Keeps.refl _ _)
  exact ⟨keepsUp h.up h0 hK, (hK.block _ (Array.getElem?_eq_some_iff.1 h.hed).1 h1).trans h.hed, (hK.block _ (Array.getElem?_eq_some_iff.1 h.hgr).1 h2).trans h.hgr, setc_heap W go j v cs _ h.hgo, own_keeps6 h.own (by omega) hK⟩
theorem view_info6 : (Try.prog.info? 27).map (·.size) = some 6 := by kernel_rfl
theorem find_miss {cur : List Fl} {x : Int} (h : ∀ q (hq : q < cur.length), cur[q].2 ≠ x) : dropF cur x = none := dropF_none fun f hf => by
  obtain ⟨q, hq, rfl⟩ := List.getElem_of_mem hf
  exact h q hq
theorem find_hit {cur : List Fl} {x : Int} {j : Nat} (hj : j < cur.length) (h : ∀ q (hq : q < cur.length), q < j → cur[q].2 ≠ x) (hx : cur[j].2 = x) : dropF cur x = some (cur.take j ++ cur.drop (j + 1)) := by
  have hf : cur.findIdx (fun f => decide (f.2 = x)) = j := by
    rw [List.findIdx_eq hj]
    exact ⟨by simpa using hx, fun q hq => by simpa using h q (by omega) hq⟩
  unfold dropF
  rw [hf, if_pos hj, List.eraseIdx_eq_take_drop_succ]
theorem cut_to_f (W : World) (A : Option Addr) (n c : Nat) (i : Nat) (h1 : i ≤ c) :
    (Instr.slice 25 (.slice A n c) none (some (.int .i64 (i : Int))) none).run Try.prog W = .ok (.slice A i c) W := by
  rw [run_slice_h W 25 A n c (by rw [show Try.prog.elem 25 = 41 from by kernel_rfl]; exact Try.underlying25) .i64 (i : Int) (by omega) (by omega), show Try.prog.elem 25 = 41 from by kernel_rfl]
  have hs : ∀ w : World, (sizeOf 41).run Try.prog w = .ok 2 w := fun w => by
    obtain ⟨_, ⟨i, z, hi, _, hs, _⟩, _⟩ := filesT
    simp [sizeOf, typeInfo, hi, hs]
  rw [hs]
  have e4 : ∀ a : Addr, a.add 0 = a := fun a => by unfold Addr.add; simp
  simp [sliced, e4]
theorem cut_from_f (W : World) (A : Option Addr) (n c : Nat) (i : Nat) (h1 : i + 1 ≤ n) :
    (Instr.slice 25 (.slice A n c) (some (.int .i64 ((i : Int) + 1))) none none).run Try.prog W = .ok (.slice (cutA A c (i + 1) 2) (n - (i + 1)) (c - (i + 1))) W := by
  rw [run_slice_l W 25 A n c (by rw [show Try.prog.elem 25 = 41 from by kernel_rfl]; exact Try.underlying25) .i64 ((i : Int) + 1) (by omega) (by omega), show Try.prog.elem 25 = 41 from by kernel_rfl]
  have hs : ∀ w : World, (sizeOf 41).run Try.prog w = .ok 2 w := fun w => by
    obtain ⟨_, ⟨i, z, hi, _, hs, _⟩, _⟩ := filesT
    simp [sizeOf, typeInfo, hi, hs]
  rw [hs]
  have e1 : ((i : Int) + 1).toNat = i + 1 := by omega
  simp [sliced, cutA, e1]
theorem Rd.ffrom {w : World} {B n c z : Nat} {A : Option Addr} {l : List Fl} (h : Rd w B 2 A n (fvs l)) (hz : z ≤ n) (hc : n ≤ c) : Rd w B 2 (cutA A c z 2) (n - z) (fvs (l.drop z)) := by
  have h1 := h.from_ hz hc
  rw [fvs_drop] at h1
  exact h1
set_option maxRecDepth 100000 in
set_option maxHeartbeats 6400000 in
theorem rapply_any (lg : Int) (A : Option Addr) (n c : Nat) (l : List Fl) (f ce at_ le : Nat) (D : Option Addr) (dn dc : Nat) (ds : List Int) (A2 : Option Addr) (an ac : Nat) (add : List Fl) (elg : Int) (ef ece eat ele : Nat) (w : World)
    (hr : Rd w w.heap.size 2 A n (fvs l)) (hn : n ≤ 1099511627776) (hd : Rd w w.heap.size 1 D dn (nmv ds)) (hdn : dn ≤ 1099511627776) (ha : Rd w w.heap.size 2 A2 an (fvs add)) (han : an ≤ 1099511627776) :
    Calls Try.prog 22 #[.agg #[.int .i64 lg, .slice A n c, .int .u64 (f : Int), .int .u64 (ce : Int), .int .u64 (at_ : Int), .int .u64 (le : Int)], .agg #[.slice D dn dc, .slice A2 an ac, .int .i64 elg, .int .u64 (ef : Int), .int .u64 (ece : Int), .int .u64 (eat : Int), .int .u64 (ele : Int)]] w
      (RApPost (applyR lg l f ce at_ le ds add elg ef ece eat ele) w) := by
  obtain ⟨w4, hw4⟩ : ∃ w4, w4 = (((w.alloc (.cells #[.int .i64 lg, .slice A n c, .int .u64 (f : Int), .int .u64 (ce : Int), .int .u64 (at_ : Int), .int .u64 (le : Int)] 27)).alloc (.cells #[.slice D dn dc, .slice A2 an ac, .int .i64 elg, .int .u64 (ef : Int), .int .u64 (ece : Int), .int .u64 (eat : Int), .int .u64 (ele : Int)] 32)).alloc
    (.cells #[.int .i64 0, .slice none 0 0, .int .u64 0, .int .u64 0, .int .u64 0, .int .u64 0] 27)).alloc (.cells #[.int .i64 lg, .slice A n c, .int .u64 (f : Int), .int .u64 (ce : Int), .int .u64 (at_ : Int), .int .u64 (le : Int)] 27) := ⟨_, rfl⟩
  have hup4 : Up w w4 := by rw [hw4]; exact ((((Up.refl w).alloc _).alloc _).alloc _).alloc _
  have hsz4 : w4.heap.size = w.heap.size + 1 + 1 + 1 + 1 := by rw [hw4]; simp
  have hvw4 : w4.heap[w.heap.size]? = some (.cells #[.int .i64 lg, .slice A n c, .int .u64 (f : Int), .int .u64 (ce : Int), .int .u64 (at_ : Int), .int .u64 (le : Int)] 27 (0, 0)) := by
    rw [hw4, Below.heap_alloc _ _ _ (by simp; omega), Below.heap_alloc _ _ _ (by simp; omega), Below.heap_alloc _ _ _ (by simp)]
    exact heap_alloc_new w _
  have hed4 : w4.heap[w.heap.size + 1]? = some (.cells #[.slice D dn dc, .slice A2 an ac, .int .i64 elg, .int .u64 (ef : Int), .int .u64 (ece : Int), .int .u64 (eat : Int), .int .u64 (ele : Int)] 32 (0, 0)) := by
    rw [hw4, Below.heap_alloc _ _ _ (by simp), Below.heap_alloc _ _ _ (by simp)]
    have h := heap_alloc_new (w.alloc (.cells #[.int .i64 lg, .slice A n c, .int .u64 (f : Int), .int .u64 (ce : Int), .int .u64 (at_ : Int), .int .u64 (le : Int)] 27)) (.cells #[.slice D dn dc, .slice A2 an ac, .int .i64 elg, .int .u64 (ef : Int), .int .u64 (ece : Int), .int .u64 (eat : Int), .int .u64 (ele : Int)] 32)
    rwa [World.size_alloc] at h
  have hgr4 : w4.heap[w.heap.size + 1 + 1]? = some (.cells #[.int .i64 0, .slice none 0 0, .int .u64 0, .int .u64 0, .int .u64 0, .int .u64 0] 27 (0, 0)) := by
    rw [hw4, Below.heap_alloc _ _ _ (by simp)]
    have h := heap_alloc_new ((w.alloc (.cells #[.int .i64 lg, .slice A n c, .int .u64 (f : Int), .int .u64 (ce : Int), .int .u64 (at_ : Int), .int .u64 (le : Int)] 27)).alloc (.cells #[.slice D dn dc, .slice A2 an ac, .int .i64 elg, .int .u64 (ef : Int), .int .u64 (ece : Int), .int .u64 (eat : Int), .int .u64 (ele : Int)] 32)) (.cells #[.int .i64 0, .slice none 0 0, .int .u64 0, .int .u64 0, .int .u64 0, .int .u64 0] 27)
    rwa [World.size_alloc, World.size_alloc] at h
  have hgo4 : w4.heap[w.heap.size + 1 + 1 + 1]? = some (.cells #[.int .i64 lg, .slice A n c, .int .u64 (f : Int), .int .u64 (ce : Int), .int .u64 (at_ : Int), .int .u64 (le : Int)] 27 (0, 0)) := by
    rw [hw4]
    have h := heap_alloc_new (((w.alloc (.cells #[.int .i64 lg, .slice A n c, .int .u64 (f : Int), .int .u64 (ce : Int), .int .u64 (at_ : Int), .int .u64 (le : Int)] 27)).alloc (.cells #[.slice D dn dc, .slice A2 an ac, .int .i64 elg, .int .u64 (ef : Int), .int .u64 (ece : Int), .int .u64 (eat : Int), .int .u64 (ele : Int)] 32)).alloc (.cells #[.int .i64 0, .slice none 0 0, .int .u64 0, .int .u64 0, .int .u64 0, .int .u64 0] 27))
      (.cells #[.int .i64 lg, .slice A n c, .int .u64 (f : Int), .int .u64 (ce : Int), .int .u64 (at_ : Int), .int .u64 (le : Int)] 27)
    rwa [World.size_alloc, World.size_alloc, World.size_alloc] at h
  have HW4 := Lib.hid hw4
  clear hw4
  have hr4 := hr.up hup4
  clear hr
  have qv := blk_cell hvw4 1
  go_enter Try.func22, Try.ntmps22
  go_wp2_with (at_builtin; rw [← HW4.out, ← hsz4]; refine wpList_append_rd _ filesT (row_new w4 #[] 41 (base := w4.heap.size) (sz := 2) (n := 0) (Nat.le_refl _) rfl (by omega)) (hr4.up ((Up.refl _).alloc _)) (fvs_one _) (by omega) (by omega) (by simp) rfl rfl rfl rfl ?_; intro v5 w5 hown5 hg5 hat5; obtain ⟨R5, rc5, rfl⟩ := own_form hown5
               rw [Nat.zero_add, List.nil_append] at hown5
               simp only [Nat.zero_add]
               have hu45 : Up w4 w5 := ((Up.refl w4).alloc _).grown hg5 (fun g hg => ((row_new w4 #[] 41 (base := w4.heap.size) (sz := 2) (n := 0) (Nat.le_refl _) rfl (by omega)).lt g hg).1)
               rw [hsz4] at hown5
               have hA5 : RAv w (w.heap.size + 1) (w.heap.size + 1 + 1) (w.heap.size + 1 + 1 + 1) #[.slice D dn dc, .slice A2 an ac, .int .i64 elg, .int .u64 (ef : Int), .int .u64 (ece : Int), .int .u64 (eat : Int), .int .u64 (ele : Int)] #[.int .i64 lg, .slice A n c, .int .u64 (f : Int), .int .u64 (ce : Int), .int .u64 (at_ : Int), .int .u64 (le : Int)] R5 n rc5 l w5 :=
                 ⟨hup4.trans hu45, (hu45.block _ (Array.getElem?_eq_some_iff.1 hed4).1).trans hed4, (hu45.block _ (Array.getElem?_eq_some_iff.1 hgr4).1).trans hgr4, (hu45.block _ (Array.getElem?_eq_some_iff.1 hgo4).1).trans hgo4, hown5⟩
               have r1 := blk_cell hA5.hgo 1
               have r2 := blk_free hA5.hgo 1
               have hA6 := hA5.set 1 (.slice R5 n rc5) (by omega) (by omega) (by omega)
               have r3 := blk_cell hA6.hed 0)
  clear r1 r2 hA5 hown5 hg5 hat5 hu45 hvw4 hed4 hgr4 hgo4 hr4 HW4 hup4 qv
  generalize w5.setCell ⟨w.heap.size + 1 + 1 + 1, 1, none⟩ (.slice R5 n rc5) = w6 at *
  clear hsz4
  have o0 : w.heap.size ≤ w.heap.size + 1 + 1 + 1 := by omega
  have o1 : w.heap.size + 1 ≠ w.heap.size + 1 + 1 + 1 := by omega
  have o2 : w.heap.size + 1 + 1 ≠ w.heap.size + 1 + 1 + 1 := by omega
  have o3 : w.heap.size ≤ w.heap.size + 1 + 1 := by omega
  have o4 : w.heap.size + 1 ≠ w.heap.size + 1 + 1 := by omega
  have o5 : w.heap.size + 1 + 1 < w.heap.size + 1 + 1 + 1 := by omega
  have o6 : w.heap.size + 1 < w.heap.size + 1 + 1 + 1 := by omega
  generalize w.heap.size + 1 + 1 + 1 = go at *
  generalize w.heap.size + 1 + 1 = gr at *
  generalize w.heap.size + 1 = ge at *
  go_loopw [7] (fun i wr => ∃ (k : Nat) (cur : List Fl) (R : Option Addr) (rn rc : Nat), i = .int .i64 (k : Int) ∧ k ≤ dn ∧ rn ≤ n ∧ RAv w ge gr go #[.slice D dn dc, .slice A2 an ac, .int .i64 elg, .int .u64 (ef : Int), .int .u64 (ece : Int), .int .u64 (eat : Int), .int .u64 (ele : Int)] #[.int .i64 lg, .slice R rn rc, .int .u64 (f : Int), .int .u64 (ce : Int), .int .u64 (at_ : Int), .int .u64 (le : Int)] R rn rc cur wr ∧ Hid (dropsF cur (ds.drop k) = dropsF l ds)) (fun i _ => dn - (intOf i).toNat)
  case atStart => exact ⟨0, l, R5, n, rc5, rfl, by omega, by omega, hA6, rfl⟩
  case round =>
    obtain ⟨k, cur, R, rn, rc, rfl, hk, hrn, hA, hdr⟩ := hrel
    clear hA6 r3
    generalize wr = wq at *
    have hrc := own_cap hA.own
    have hrl : rn = cur.length := by have := hA.own.1; rw [fvs_length] at this; omega
    have q0 := blk_cell hA.hed 0
    have q1 := blk_cell hA.hgo 1
    by_cases hlt : k < dn
    · have hdl : dn = ds.length := by have := hd.1; rw [nmv_len] at this; omega
      obtain ⟨b, o, rfl, hb, hc⟩ := hd.2 (by omega)
      have hck : wq.cell? ⟨b, o + k, none⟩ = some (.int .i64 (ds[k]'(by omega))) := (hA.up.cell (p := ⟨b, o + k, none⟩) hb).trans (hc k _ (by simp [nmv, show k < ds.length by omega]))
      have hdk : ds.drop k = ds[k]'(by omega) :: ds.drop (k + 1) := List.drop_eq_getElem_cons (by omega)
      generalize ds[k]'(by omega) = x at hck hdk
      have HDK := Lib.hid hdk
      have hbw := Nat.lt_of_lt_of_le hb hA.up.size
      have HRL := Lib.hid hrl
      clear hc hdk hdl hrl
      go_wp2_with fail
      go_loopw [8] (fun i wr => ∃ (j : Nat), i = .int .i64 (j : Int) ∧ j ≤ rn ∧ Hid (∀ q (hq : q < cur.length), q < j → cur[q].2 ≠ x) ∧ Up wq wr) (fun i _ => rn - (intOf i).toNat)
      case atStart => exact ⟨0, rfl, by omega, fun q _ h => absurd h (Nat.not_lt_zero _), Up.refl _⟩
      case round =>
        obtain ⟨j, rfl, hj, hq, hu⟩ := hrel
        have hB := hA.grow hu
        by_cases hjn : j < rn
        · obtain ⟨bR, oR, y, rfl, hbR, hy, c0, c1⟩ := (Rd.own hB.own).file_at hjn
          have hjl : j < cur.length := by have := HRL.out; omega
          have hyc : cur[j] = y := by
            rw [List.getElem?_eq_getElem hjl] at hy
            injection hy
          have hS := fun W (h : Up wr W) => And.intro h (And.intro ((h.cell (p := ⟨go, 1, none⟩) (Array.getElem?_eq_some_iff.1 hB.hgo).1).trans (blk_cell hB.hgo 1)) (And.intro ((h.cell (p := ⟨ge, 0, none⟩) (Array.getElem?_eq_some_iff.1 hB.hed).1).trans (blk_cell hB.hed 0)) (And.intro (((hu.trans h).cell (p := ⟨b, o + k, none⟩) hbw).trans hck) ((h.cell (p := ⟨bR, oR + j * 2 + 1, none⟩) hbR).trans c1))))
          simp only [List.getElem?_toArray, List.getElem?_cons_zero, List.getElem?_cons_succ] at hS
          have HYC := Lib.hid hyc
          clear hy hyc c0 c1 q0 q1
          have d1 : decide (j < rn) = true := by simpa using hjn
          by_cases hyx : y.2 = x
          · have d2 : (y.2 != x) = false := by simp [hyx]
            have HYX := Lib.hid hyx
            clear hyx
            go_wp2_with fail
            apply Rg.region_up _ (by kernel_rfl) (by kernel_rfl) hS
            · intro QN hQN
              iterate 6 (apply Rg.RK.ok; (· intro vs w1 hS; go_simp; with_reducible rfl); (· rfl); simp only [Act.put, List.setIfInBounds_toArray, List.set_cons_zero, List.set_cons_succ, Nat.reduceAdd])
              iterate 12 (apply Rg.RK.gok (t := 27); (· intro vs w1 hS; go_simp; with_reducible rfl); (· rfl); (· intro vs; rfl); simp only [Act.put, List.setIfInBounds_toArray, List.set_cons_zero, List.set_cons_succ, Nat.reduceAdd])
              iterate 1 (apply Rg.RK.ok; (· intro vs w1 hS; go_simp; with_reducible rfl); (· rfl); simp only [Act.put, List.setIfInBounds_toArray, List.set_cons_zero, List.set_cons_succ, Nat.reduceAdd])
              apply Rg.RK.fin []
              intro vs w1 hK hS _
              refine hQN.out _ _ ?_
              clear hQN
              have hC := hB.grow (keeps_up hK)
              clear hS hK hB hA
              have q1 := blk_cell hC.hgo 1
              have d3 : ((j : Int) == (rn : Int)) = false := by rw [beq_eq_false_iff_ne]; omega
              go_wp2_with fail
              have hjr : j + 1 ≤ rn := hjn
              have CT := fun W => cut_to_f W (some ⟨bR, oR, none⟩) rn rc j (by omega)
              have CF := fun W => cut_from_f W (some ⟨bR, oR, none⟩) rn rc j hjr
              have hwr1 : IntKind.i64.wrap ((j : Int) + 1) = (j : Int) + 1 := IntWalk.i64_in _ (by omega)
              have hrdC := Rd.own hC.own
              have hneC : ∀ a, (some (⟨bR, oR, none⟩ : Addr)) = some a → a.block ≠ go := fun a ha => by have := (own_fresh hC.own a ha).1; omega
              have hKS : ∀ w2, Rg.Keeps (fun g => g = go) w1.drew w2 → Rd w2 w2.heap.size 2 (some ⟨bR, oR, none⟩) rn (fvs cur) := fun w2 hK => Rd.keepsNe (w := w1) hrdC (Nat.le_refl _) hneC ⟨hK.os, hK.tape, hK.output, hK.size, hK.block⟩
              have hlg := (Array.getElem?_eq_some_iff.1 hC.hgo).1
              have hfh : dropF cur x = some (cur.take j ++ cur.drop (j + 1)) := find_hit hjl (fun q h1 h2 => hq.out q h1 h2) (by rw [HYC.out]; exact HYX.out)
              have HFH := Lib.hid hfh
              clear q1 d3 hq hfh hck hbw
              apply Rg.region_own 14 _ (fun g => g = go) (fun W => W.heap[go]? = some (.cells #[.int .i64 lg, .slice (some ⟨bR, oR, none⟩) rn rc, .int .u64 (f : Int), .int .u64 (ce : Int), .int .u64 (at_ : Int), .int .u64 (le : Int)] 27 (0, 0))) rfl (by kernel_rfl) (by kernel_rfl) (by rintro g rfl; exact hlg) hC.hgo (fun w1 w2 h hs => (hs.block go (Array.getElem?_eq_some_iff.1 h).1 (.inr rfl)).trans h) hKS
              · intro QN hQN
                apply Rg.RK.opn (fun v W => W.ownsRow (go + 1) 41 2 v 0 (fvs [])) Rg.ob [] []
                · exact fun v W1 W2 h hs => row_sta h hs
                · rfl
                · intro vs w4 hK hS hf K hKK
                  go_simp
                  exact hKK.out _ _ (row_new w4 #[] 41 (base := go + 1) (sz := 2) (n := 0) (by have := hK.size; have h9 : w1.drew.heap.size = w1.heap.size := rfl; omega) rfl (by omega)) (Rg.Keeps.of_up ((Up.refl _).alloc _)) (by rintro g rfl; exact ⟨by simp, .inl (Nat.le_refl _)⟩)
                simp only [Act.put, List.setIfInBounds_toArray, List.set_cons_zero, List.set_cons_succ, Nat.reduceAdd]
                iterate 1 (apply Rg.RK.ok; (· intro vs w1 hS; go_simp; with_reducible rfl); (· rfl); simp only [Act.put, List.setIfInBounds_toArray, List.set_cons_zero, List.set_cons_succ, Nat.reduceAdd])
                apply Rg.RK.okU [14] (v := .slice (some ⟨bR, oR, none⟩) rn rc)
                · intro vs w4 hS hf
                  have hb := hf.1
                  have hb1 : w4.heap[go]? = some (.cells #[.int .i64 lg, .slice (some ⟨bR, oR, none⟩) rn rc, .int .u64 (f : Int), .int .u64 (ce : Int), .int .u64 (at_ : Int), .int .u64 (le : Int)] 27 (0, 0)) := hb
                  have hb2 := blk_cell hb1 1
                  go_simp
                  (try with_reducible rfl)
                · rfl
                simp only [Act.put, List.setIfInBounds_toArray, List.set_cons_zero, List.set_cons_succ, Nat.reduceAdd]
                iterate 2 (apply Rg.RK.ok; (· intro vs w1 hS; go_simp; with_reducible rfl); (· rfl); simp only [Act.put, List.setIfInBounds_toArray, List.set_cons_zero, List.set_cons_succ, Nat.reduceAdd])
                apply Rg.RK.opn (fun v W => W.ownsRow (go + 1) 41 2 v j (fvs (cur.take j))) Rg.ob [0] [0]
                · exact fun v W1 W2 h hs => row_sta h hs
                · rfl
                · intro vs w4 hK hS hf K hKK
                  have h0 : w4.ownsRow (go + 1) 41 2 (vs 0) 0 (fvs []) := hf.1
                  refine wp_append_rd _ _ _ filesT rfl rfl rfl h0 (Rd.fto hS (k := j) (by omega)) (fvs_one _) (by omega) (by omega) (by have := hK.size; have h9 : w1.drew.heap.size = w1.heap.size := rfl; omega) fun v' w5 ho' hg' hat' => ?_
                  rw [Nat.zero_add, show fvs [] ++ fvs (cur.take j) = fvs (cur.take j) from rfl] at ho'
                  exact hKK.out _ _ ho' (keeps_grown h0 hg' fun g hg => ⟨0, List.mem_singleton.2 rfl, hg⟩) (fun g hg => by have h9 := own_grown h0 ho' hat' (X := fun g => Rg.ob (vs 0) g) (fun g hg => hg) g hg; exact ⟨h9.1, h9.2.imp id (fun h => ⟨0, List.mem_singleton.2 rfl, h⟩)⟩)
                simp only [Act.put, List.setIfInBounds_toArray, List.set_cons_zero, List.set_cons_succ, Nat.reduceAdd]
                iterate 1 (apply Rg.RK.ok; (· intro vs w1 hS; go_simp; with_reducible rfl); (· rfl); simp only [Act.put, List.setIfInBounds_toArray, List.set_cons_zero, List.set_cons_succ, Nat.reduceAdd])
                apply Rg.RK.okU [14] (v := .slice (some ⟨bR, oR, none⟩) rn rc)
                · intro vs w4 hS hf
                  have hb := hf.1
                  have hb1 : w4.heap[go]? = some (.cells #[.int .i64 lg, .slice (some ⟨bR, oR, none⟩) rn rc, .int .u64 (f : Int), .int .u64 (ce : Int), .int .u64 (at_ : Int), .int .u64 (le : Int)] 27 (0, 0)) := hb
                  have hb2 := blk_cell hb1 1
                  go_simp
                  (try with_reducible rfl)
                · rfl
                simp only [Act.put, List.setIfInBounds_toArray, List.set_cons_zero, List.set_cons_succ, Nat.reduceAdd]
                iterate 3 (apply Rg.RK.ok; (· intro vs w1 hS; go_simp; with_reducible rfl); (· rfl); simp only [Act.put, List.setIfInBounds_toArray, List.set_cons_zero, List.set_cons_succ, Nat.reduceAdd])
                apply Rg.RK.opn (fun v W => W.ownsRow (go + 1) 41 2 v (j + (rn - (j + 1))) (fvs (cur.take j ++ cur.drop (j + 1)))) Rg.ob [5] [5]
                · exact fun v W1 W2 h hs => row_sta h hs
                · rfl
                · intro vs w4 hK hS hf K hKK
                  have h0 : w4.ownsRow (go + 1) 41 2 (vs 5) j (fvs (cur.take j)) := hf.1
                  refine wp_append_rd _ _ _ filesT rfl rfl rfl h0 (Rd.ffrom hS (z := j + 1) hjr hrc) (fvs_one _) (by omega) (by omega) (by have := hK.size; have h9 : w1.drew.heap.size = w1.heap.size := rfl; omega) fun v' w5 ho' hg' hat' => ?_
                  rw [← fvs_append] at ho'
                  exact hKK.out _ _ ho' (keeps_grown h0 hg' fun g hg => ⟨5, List.mem_singleton.2 rfl, hg⟩) (fun g hg => by have h9 := own_grown h0 ho' hat' (X := fun g => Rg.ob (vs 5) g) (fun g hg => hg) g hg; exact ⟨h9.1, h9.2.imp id (fun h => ⟨5, List.mem_singleton.2 rfl, h⟩)⟩)
                simp only [Act.put, List.setIfInBounds_toArray, List.set_cons_zero, List.set_cons_succ, Nat.reduceAdd]
                iterate 1 (apply Rg.RK.ok; (· intro vs w1 hS; go_simp; with_reducible rfl); (· rfl); simp only [Act.put, List.setIfInBounds_toArray, List.set_cons_zero, List.set_cons_succ, Nat.reduceAdd])
                apply Rg.RK.opD (fun vs W => ∃ R' rc', vs 11 = .slice R' (j + (rn - (j + 1))) rc' ∧ W.heap[go]? = some (.cells #[.int .i64 lg, .slice R' (j + (rn - (j + 1))) rc', .int .u64 (f : Int), .int .u64 (ce : Int), .int .u64 (at_ : Int), .int .u64 (le : Int)] 27 (0, 0))) (fun _ g => g = go) [11, 14] [14] [11] (fun vs vs' h => by rw [h 11 (by simp)]; exact ⟨rfl, rfl⟩)
                · rintro vs W1 W2 ⟨R', rc', hv, hh⟩ hs
                  exact ⟨R', rc', hv, (hs.block go (Array.getElem?_eq_some_iff.1 hh).1 (.inr rfl)).trans hh⟩
                · rfl
                · intro vs w4 hK hS hf K hKK
                  obtain ⟨h11, hblk, -⟩ := hf
                  have h11' : w4.ownsRow (go + 1) 41 2 (vs 11) (j + (rn - (j + 1))) (fvs (cur.take j ++ cur.drop (j + 1))) := h11
                  obtain ⟨R', rc', hv⟩ := own_form h11'
                  have hblk2 : w4.heap[go]? = some (.cells #[.int .i64 lg, .slice (some ⟨bR, oR, none⟩) rn rc, .int .u64 (f : Int), .int .u64 (ce : Int), .int .u64 (at_ : Int), .int .u64 (le : Int)] 27 (0, 0)) := hblk
                  have t1 := blk_cell hblk2 1
                  have s1 := blk_free hblk2 1
                  have h7 := setc_heap w4 go 1 (.slice R' (j + (rn - (j + 1))) rc') _ _ hblk2
                  have h8 := setc_keeps w4 w4 go 1 (.slice R' (j + (rn - (j + 1))) rc') (Rg.Keeps.refl _ _)
                  (try dsimp only at hKK ⊢)
                  rw [hv] at hKK ⊢
                  have HV := Lib.hid hv
                  clear hv
                  go_simp
                  refine hKK.out undef _ ⟨R', rc', ?_, h7⟩ (Keeps.weak h8 fun y hy => ⟨14, List.mem_singleton.2 rfl, hy⟩) (fun y hy => ⟨?_, .inr ⟨14, List.mem_singleton.2 rfl, hy⟩⟩)
                  · rw [Rg.upd_ne _ _ (by decide)]; exact HV.out
                  · have hyy : y = go := hy
                    rw [hyy]; exact (Array.getElem?_eq_some_iff.1 h7).1
                simp only [Act.put, List.setIfInBounds_toArray, List.set_cons_zero, List.set_cons_succ, Nat.reduceAdd]
                apply Rg.RK.fin [11, 13]
                intro vs w4 hK hS hf
                obtain ⟨hown, h13, -⟩ := hf
                refine hQN.out _ _ ?_
                clear hQN
                obtain ⟨R', rc', hv2, hh⟩ := h13
                have hown2 : w4.ownsRow (go + 1) 41 2 (vs 11) (j + (rn - (j + 1))) (fvs (cur.take j ++ cur.drop (j + 1))) := hown
                rw [hv2] at hown2
                have hD : RAv w ge gr go #[.slice (some ⟨b, o, none⟩) dn dc, .slice A2 an ac, .int .i64 elg, .int .u64 (ef : Int), .int .u64 (ece : Int), .int .u64 (eat : Int), .int .u64 (ele : Int)] #[.int .i64 lg, .slice R' (j + (rn - (j + 1))) rc', .int .u64 (f : Int), .int .u64 (ce : Int), .int .u64 (at_ : Int), .int .u64 (le : Int)] R' (j + (rn - (j + 1))) rc' (cur.take j ++ cur.drop (j + 1)) w4 :=
                  ⟨keepsUp (wq := w1.drew) hC.up.drew o0 hK, (hK.block ge (Array.getElem?_eq_some_iff.1 hC.hed).1 o1).trans hC.hed, (hK.block gr (Array.getElem?_eq_some_iff.1 hC.hgr).1 o2).trans hC.hgr, hh, hown2⟩
                clear hown hS hK hh hown2 hC hKS CT CF hrdC hneC hwr1
                go_wp2_with fail
                go_roundw
                case rel =>
                  refine ⟨k + 1, cur.take j ++ cur.drop (j + 1), R', j + (rn - (j + 1)), rc', by go_num, by omega, by omega, hD, ?_⟩
                  show _ = _
                  rw [← hdr.out, HDK.out]
                  show _ = (dropF cur x).bind _
                  rw [HFH.out]; rfl
                case measure => simp [intOf] <;> omega
              · kernel_rfl
            · kernel_rfl
          · have d2 : (y.2 != x) = true := by simp [hyx]
            have HYX := Lib.hid hyx
            clear hyx
            go_wp2_with fail
            apply Rg.region_up _ (by kernel_rfl) (by kernel_rfl) hS
            · intro QN hQN
              iterate 6 (apply Rg.RK.ok; (· intro vs w1 hS; go_simp; with_reducible rfl); (· rfl); simp only [Act.put, List.setIfInBounds_toArray, List.set_cons_zero, List.set_cons_succ, Nat.reduceAdd])
              iterate 12 (apply Rg.RK.gok (t := 27); (· intro vs w1 hS; go_simp; with_reducible rfl); (· rfl); (· intro vs; rfl); simp only [Act.put, List.setIfInBounds_toArray, List.set_cons_zero, List.set_cons_succ, Nat.reduceAdd])
              iterate 1 (apply Rg.RK.ok; (· intro vs w1 hS; go_simp; with_reducible rfl); (· rfl); simp only [Act.put, List.setIfInBounds_toArray, List.set_cons_zero, List.set_cons_succ, Nat.reduceAdd])
              apply Rg.RK.fin []
              intro vs w1 hK hS _
              refine hQN.out _ _ ?_
              clear hQN
              have hu2 := hu.trans (keeps_up hK)
              clear hS hK hB
              go_wp2_with fail
              go_roundw
              case rel =>
                refine ⟨j + 1, by go_num, by omega, fun q hq1 hq2 => ?_, hu2⟩
                by_cases h9 : q = j
                · subst h9; rw [HYC.out]; exact HYX.out
                · exact hq.out q hq1 (by omega)
              case measure => simp [intOf] <;> omega
            · kernel_rfl
        · have hjr : j = rn := by omega
          subst hjr
          have d1 : decide (j < j) = false := by simp
          have hno : dropsF l ds = none := by
            rw [← hdr.out, HDK.out]
            show (dropF cur x).bind _ = _
            rw [find_miss fun q hq1 => hq.out q hq1 (by have := HRL.out; omega)]; rfl
          have HNO := Lib.hid hno
          have hS := fun W (h : Up wr W) => And.intro h ((h.cell (p := ⟨go, 1, none⟩) (Array.getElem?_eq_some_iff.1 hB.hgo).1).trans (blk_cell hB.hgo 1))
          simp only [List.getElem?_toArray, List.getElem?_cons_zero, List.getElem?_cons_succ] at hS
          clear hno hA q0 q1 hck hq hdr
          go_wp2_with fail
          apply Rg.region_up _ (by kernel_rfl) (by kernel_rfl) hS
          · intro QN hQN
            iterate 6 (apply Rg.RK.ok; (· intro vs w1 hS; go_simp; with_reducible rfl); (· rfl); simp only [Act.put, List.setIfInBounds_toArray, List.set_cons_zero, List.set_cons_succ, Nat.reduceAdd])
            iterate 12 (apply Rg.RK.gno (t := 27) (y := false); (· rfl); (· intro vs; rfl); (· rfl); simp only [Act.put, List.setIfInBounds_toArray, List.set_cons_zero, List.set_cons_succ, Nat.reduceAdd])
            iterate 1 (apply Rg.RK.ok; (· intro vs w1 hS; go_simp; with_reducible rfl); (· rfl); simp only [Act.put, List.setIfInBounds_toArray, List.set_cons_zero, List.set_cons_succ, Nat.reduceAdd])
            apply Rg.RK.fin []
            intro vs w1 hK hS _
            refine hQN.out _ _ ?_
            clear hQN
            have hC := hB.grow (keeps_up hK)
            clear hS hK hB
            have q1 := blk_cell hC.hgo 1
            have d2 : ((j : Int) == (j : Int)) = true := by simp
            go_wp2_with (first
              | (with_reducible show wpList _ _ _ (⟨none, .store 27 _ _, _, _, _, none⟩ :: _) _ _
                 go_loud (refine wpList_store_all rfl 27 _ _ rfl (g := gr) (cells := #[.int .i64 0, .slice none 0 0, .int .u64 0, .int .u64 0, .int .u64 0, .int .u64 0]) (by kernel_rfl) (by kernel_rfl) hC.hgr view_info6 rfl (by simp [Value.oneCell']) ?_)
                 intro w5 hgd hbut
                 have hup5 := But.up hC.up hbut o3
                 clear hbut))
            have t0 := blk_cell hgd 0
            have t1 := blk_cell hgd 1
            have t2 := blk_cell hgd 2
            have t3 := blk_cell hgd 3
            have t4 := blk_cell hgd 4
            have t5 := blk_cell hgd 5
            refine bodyPost_ret (v := .tuple #[.agg #[.int .i64 0, .slice none 0 0, .int .u64 0, .int .u64 0, .int .u64 0, .int .u64 0], .bool false]) (by simp [results, Try.results22, go_sem, t0, t1, t2, t3, t4, t5]) rfl ?_
            have hR : applyR lg l f ce at_ le ds add elg ef ece eat ele = none := by unfold applyR; rw [HNO.out]
            rw [hR]
            exact ⟨rfl, hup5⟩
          · kernel_rfl
    · have hkd : k = ds.length := by have := hd.1; rw [nmv_len] at this; omega
      have hdrop : dropsF l ds = some cur := by rw [← hdr.out, hkd, List.drop_length]; rfl
      have HDR := Lib.hid hdrop
      clear hkd hdrop hdr hrl
      have ha7 := ha.up hA.up
      have q2 := blk_cell hA.hed 1
      go_upto_if 70 with (at_builtin; refine wpList_append_rd _ filesT hA.own ha7 (fvs_one _) (by omega) (by omega) (by have := (Array.getElem?_eq_some_iff.1 hA.hgo).1; omega) rfl rfl rfl rfl ?_; intro v5 w5 hown5 hg5 hat5; obtain ⟨R5, rc5, rfl⟩ := own_form hown5
                          rw [← fvs_append] at hown5
                          have hlo := hA.own.lt
                          have hA5 : RAv w ge gr go #[.slice D dn dc, .slice A2 an ac, .int .i64 elg, .int .u64 (ef : Int), .int .u64 (ece : Int), .int .u64 (eat : Int), .int .u64 (ele : Int)] #[.int .i64 lg, .slice R rn rc, .int .u64 (f : Int), .int .u64 (ce : Int), .int .u64 (at_ : Int), .int .u64 (le : Int)] R5 (rn + an) rc5 (cur ++ add) w5 :=
                            ⟨hA.up.grown hg5 (fun k0 e0 => by have := (hlo k0 e0).1; omega), (hg5.block ge (Array.getElem?_eq_some_iff.1 hA.hed).1 (fun e0 => by have := (hlo ge e0.symm).1; omega)).trans hA.hed, (hg5.block gr (Array.getElem?_eq_some_iff.1 hA.hgr).1 (fun e0 => by have := (hlo gr e0.symm).1; omega)).trans hA.hgr, (hg5.block go (Array.getElem?_eq_some_iff.1 hA.hgo).1 (fun e0 => by have := (hlo go e0.symm).1; omega)).trans hA.hgo, hown5⟩
                          have r1 := blk_cell hA5.hgo 1
                          have r2 := blk_free hA5.hgo 1
                          have hA6 := hA5.set 1 (.slice R5 (rn + an) rc5) o0 o1 o2
                          have r3 := blk_cell hA6.hed 2)
      clear r1 r2 r3 hA hA5 hown5 hg5 hat5 hlo ha7 q0 q1 q2 hd ha
      generalize w5.setCell ⟨go, 1, none⟩ (.slice R5 (rn + an) rc5) = w6 at *
      go_cut [] from 9 (fun wc => RAv w ge gr go #[.slice D dn dc, .slice A2 an ac, .int .i64 elg, .int .u64 (ef : Int), .int .u64 (ece : Int), .int .u64 (eat : Int), .int .u64 (ele : Int)] #[.int .i64 (updI lg elg), .slice R5 (rn + an) rc5, .int .u64 (f : Int), .int .u64 (ce : Int), .int .u64 (at_ : Int), .int .u64 (le : Int)] R5 (rn + an) rc5 (cur ++ add) wc)
      case first =>
        by_cases hx : elg = 0
        · have hb : (elg != 0) = false := by rw [bne_eq_false_iff_eq]; omega
          go_wp2_with fail
          go_meet
          case rel =>
            rw [show updI lg elg = lg from by unfold updI; rw [if_pos hx]]
            exact hA6
        · have hb : (elg != 0) = true := by rw [bne_iff_ne]; omega
          have r1 := blk_cell hA6.hed 2
          have r2 := blk_cell hA6.hgo 0
          have r3 := blk_free hA6.hgo 0
          have hA7 := hA6.set 0 (.int .i64 elg) o0 o1 o2
          go_wp2_with fail
          go_meet
          case rel =>
            rw [show updI lg elg = elg from by unfold updI; rw [if_neg hx]]
            exact hA7
      clear hA6
      have hA6 := hcut
      clear hcut
      have r1 := blk_cell hA6.hed 3
      go_upto_if 76 with (fail)
      clear r1
      go_cut [] from 9 (fun wc => RAv w ge gr go #[.slice D dn dc, .slice A2 an ac, .int .i64 elg, .int .u64 (ef : Int), .int .u64 (ece : Int), .int .u64 (eat : Int), .int .u64 (ele : Int)] #[.int .i64 (updI lg elg), .slice R5 (rn + an) rc5, .int .u64 ((updN f ef : Nat) : Int), .int .u64 (ce : Int), .int .u64 (at_ : Int), .int .u64 (le : Int)] R5 (rn + an) rc5 (cur ++ add) wc)
      case first =>
        by_cases hx : ef = 0
        · have hb : ((ef : Int) != 0) = false := by rw [bne_eq_false_iff_eq]; omega
          go_wp2_with fail
          go_meet
          case rel =>
            rw [show updN f ef = f from by unfold updN; rw [if_pos hx]]
            exact hA6
        · have hb : ((ef : Int) != 0) = true := by rw [bne_iff_ne]; omega
          have r1 := blk_cell hA6.hed 3
          have r2 := blk_cell hA6.hgo 2
          have r3 := blk_free hA6.hgo 2
          have hA7 := hA6.set 2 (.int .u64 (ef : Int)) o0 o1 o2
          go_wp2_with fail
          go_meet
          case rel =>
            rw [show updN f ef = ef from by unfold updN; rw [if_neg hx]]
            exact hA7
      clear hA6
      have hA6 := hcut
      clear hcut
      have r1 := blk_cell hA6.hed 4
      go_upto_if 82 with (fail)
      clear r1
      go_cut [] from 9 (fun wc => RAv w ge gr go #[.slice D dn dc, .slice A2 an ac, .int .i64 elg, .int .u64 (ef : Int), .int .u64 (ece : Int), .int .u64 (eat : Int), .int .u64 (ele : Int)] #[.int .i64 (updI lg elg), .slice R5 (rn + an) rc5, .int .u64 ((updN f ef : Nat) : Int), .int .u64 ((updN ce ece : Nat) : Int), .int .u64 (at_ : Int), .int .u64 (le : Int)] R5 (rn + an) rc5 (cur ++ add) wc)
      case first =>
        by_cases hx : ece = 0
        · have hb : ((ece : Int) != 0) = false := by rw [bne_eq_false_iff_eq]; omega
          go_wp2_with fail
          go_meet
          case rel =>
            rw [show updN ce ece = ce from by unfold updN; rw [if_pos hx]]
            exact hA6
        · have hb : ((ece : Int) != 0) = true := by rw [bne_iff_ne]; omega
          have r1 := blk_cell hA6.hed 4
          have r2 := blk_cell hA6.hgo 3
          have r3 := blk_free hA6.hgo 3
          have hA7 := hA6.set 3 (.int .u64 (ece : Int)) o0 o1 o2
          go_wp2_with fail
          go_meet
          case rel =>
            rw [show updN ce ece = ece from by unfold updN; rw [if_neg hx]]
            exact hA7
      clear hA6
      have hA6 := hcut
      clear hcut
      have r1 := blk_cell hA6.hed 5
      go_upto_if 88 with (fail)
      clear r1
      go_cut [] from 9 (fun wc => RAv w ge gr go #[.slice D dn dc, .slice A2 an ac, .int .i64 elg, .int .u64 (ef : Int), .int .u64 (ece : Int), .int .u64 (eat : Int), .int .u64 (ele : Int)] #[.int .i64 (updI lg elg), .slice R5 (rn + an) rc5, .int .u64 ((updN f ef : Nat) : Int), .int .u64 ((updN ce ece : Nat) : Int), .int .u64 ((updN at_ eat : Nat) : Int), .int .u64 (le : Int)] R5 (rn + an) rc5 (cur ++ add) wc)
      case first =>
        by_cases hx : eat = 0
        · have hb : ((eat : Int) != 0) = false := by rw [bne_eq_false_iff_eq]; omega
          go_wp2_with fail
          go_meet
          case rel =>
            rw [show updN at_ eat = at_ from by unfold updN; rw [if_pos hx]]
            exact hA6
        · have hb : ((eat : Int) != 0) = true := by rw [bne_iff_ne]; omega
          have r1 := blk_cell hA6.hed 5
          have r2 := blk_cell hA6.hgo 4
          have r3 := blk_free hA6.hgo 4
          have hA7 := hA6.set 4 (.int .u64 (eat : Int)) o0 o1 o2
          go_wp2_with fail
          go_meet
          case rel =>
            rw [show updN at_ eat = eat from by unfold updN; rw [if_neg hx]]
            exact hA7
      clear hA6
      have hA6 := hcut
      clear hcut
      have r1 := blk_cell hA6.hed 6
      go_upto_if 94 with (fail)
      clear r1
      go_cut [] from 9 (fun wc => RAv w ge gr go #[.slice D dn dc, .slice A2 an ac, .int .i64 elg, .int .u64 (ef : Int), .int .u64 (ece : Int), .int .u64 (eat : Int), .int .u64 (ele : Int)] #[.int .i64 (updI lg elg), .slice R5 (rn + an) rc5, .int .u64 ((updN f ef : Nat) : Int), .int .u64 ((updN ce ece : Nat) : Int), .int .u64 ((updN at_ eat : Nat) : Int), .int .u64 ((updN le ele : Nat) : Int)] R5 (rn + an) rc5 (cur ++ add) wc)
      case first =>
        by_cases hx : ele = 0
        · have hb : ((ele : Int) != 0) = false := by rw [bne_eq_false_iff_eq]; omega
          go_wp2_with fail
          go_meet
          case rel =>
            rw [show updN le ele = le from by unfold updN; rw [if_pos hx]]
            exact hA6
        · have hb : ((ele : Int) != 0) = true := by rw [bne_iff_ne]; omega
          have r1 := blk_cell hA6.hed 6
          have r2 := blk_cell hA6.hgo 5
          have r3 := blk_free hA6.hgo 5
          have hA7 := hA6.set 5 (.int .u64 (ele : Int)) o0 o1 o2
          go_wp2_with fail
          go_meet
          case rel =>
            rw [show updN le ele = ele from by unfold updN; rw [if_neg hx]]
            exact hA7
      clear hA6
      have hA6 := hcut
      clear hcut
      have q0 := blk_cell hA6.hgo 0
      have q1 := blk_cell hA6.hgo 1
      have q2 := blk_cell hA6.hgo 2
      have q3 := blk_cell hA6.hgo 3
      have q4 := blk_cell hA6.hgo 4
      have q5 := blk_cell hA6.hgo 5
      have hcap6 := own_cap hA6.own
      go_wp2_with fail
      clear q0 q1 q2 q3 q4 q5
      refine (rvok_any (updI lg elg) R5 (rn + an) rc5 (cur ++ add) (updN f ef) (updN ce ece) (updN at_ eat) (updN le ele) _ (Rd.own hA6.own) (by omega)).mono ?_
      rintro e w10 ⟨rfl, hu10⟩
      have hA7 := hA6.grow hu10
      clear hA6 hu10
      obtain ⟨bo, hbo⟩ : ∃ bo, bo = viewOk (updI lg elg) (cur ++ add) (updN f ef) (updN ce ece) (updN at_ eat) (updN le ele) := ⟨_, rfl⟩
      rw [← hbo]
      have HBO := Lib.hid hbo
      clear hbo
      cases bo
      · go_wp2_with (first
          | (with_reducible show wpList _ _ _ (⟨none, .store 27 _ _, _, _, _, none⟩ :: _) _ _
             go_loud (refine wpList_store_all rfl 27 _ _ rfl (g := gr) (cells := #[.int .i64 0, .slice none 0 0, .int .u64 0, .int .u64 0, .int .u64 0, .int .u64 0]) (by kernel_rfl) (by kernel_rfl) hA7.hgr view_info6 rfl (by simp [Value.oneCell']) ?_)
             intro w11 hgd hbut
             have hup11 := But.up hA7.up hbut o3
             clear hbut))
        have t0 := blk_cell hgd 0
        have t1 := blk_cell hgd 1
        have t2 := blk_cell hgd 2
        have t3 := blk_cell hgd 3
        have t4 := blk_cell hgd 4
        have t5 := blk_cell hgd 5
        refine bodyPost_ret (v := .tuple #[.agg #[.int .i64 0, .slice none 0 0, .int .u64 0, .int .u64 0, .int .u64 0, .int .u64 0], .bool false]) (by simp [results, Try.results22, go_sem, t0, t1, t2, t3, t4, t5]) rfl ?_
        have hR : applyR lg l f ce at_ le ds add elg ef ece eat ele = none := by
          unfold applyR
          rw [HDR.out]
          simp only []
          rw [← HBO.out]; rfl
        rw [hR]
        exact ⟨rfl, hup11⟩
      · have q0 := blk_cell hA7.hgo 0
        have q1 := blk_cell hA7.hgo 1
        have q2 := blk_cell hA7.hgo 2
        have q3 := blk_cell hA7.hgo 3
        have q4 := blk_cell hA7.hgo 4
        have q5 := blk_cell hA7.hgo 5
        go_wp2_with (first
          | (with_reducible show wpList _ _ _ (⟨none, .store 27 _ _, _, _, _, none⟩ :: _) _ _
             go_loud (refine wpList_store_all rfl 27 _ _ rfl (g := gr) (cells := #[.int .i64 (updI lg elg), .slice R5 (rn + an) rc5, .int .u64 ((updN f ef : Nat) : Int), .int .u64 ((updN ce ece : Nat) : Int), .int .u64 ((updN at_ eat : Nat) : Int), .int .u64 ((updN le ele : Nat) : Int)]) (by kernel_rfl) (by kernel_rfl) hA7.hgr view_info6 rfl (by simp [Value.oneCell']) ?_)
             intro w11 hgd hbut
             have hup11 := But.up hA7.up hbut o3
             have hown11 := hbut.own hA7.own (fun e9 => by have := (hA7.own.lt gr e9).1; omega)
             clear hbut))
        have t0 := blk_cell hgd 0
        have t1 := blk_cell hgd 1
        have t2 := blk_cell hgd 2
        have t3 := blk_cell hgd 3
        have t4 := blk_cell hgd 4
        have t5 := blk_cell hgd 5
        refine bodyPost_ret (v := .tuple #[.agg #[.int .i64 (updI lg elg), .slice R5 (rn + an) rc5, .int .u64 ((updN f ef : Nat) : Int), .int .u64 ((updN ce ece : Nat) : Int), .int .u64 ((updN at_ eat : Nat) : Int), .int .u64 ((updN le ele : Nat) : Int)], .bool true]) (by simp [results, Try.results22, go_sem, t0, t1, t2, t3, t4, t5]) rfl ?_
        have hR : applyR lg l f ce at_ le ds add elg ef ece eat ele = some (updI lg elg, cur ++ add, updN f ef, updN ce ece, updN at_ eat, updN le ele) := by
          unfold applyR
          rw [HDR.out]
          simp only []
          rw [← HBO.out]; rfl
        rw [hR]
        exact ⟨R5, rn + an, rc5, rfl, Rd.own hown11, hcap6, hup11, fun a ha => by have := own_fresh hown11 a ha; omega⟩
end Go.Proofs.Ytokcaoaclheiiaa

/-
  The walk of the edit's reader: take.
-/
namespace Go.Proofs.Ytokcaoaclheiiaa
open Go.RowKit
set_option linter.unusedVariables false
set_option linter.unusedSimpArgs false

/-- what a reader's take comes to: the number; what is left; is all well -/
def rtk (most : Nat) (bs : List UInt8) (ok : Bool) : Nat × List UInt8 × Bool :=
  if ok = true ∧ (takeL bs).2.2 = 0 ∧ (takeL bs).1 ≤ most then ((takeL bs).1, bs.drop (takeL bs).2.1, true) else (0, bs, false)
theorem rtk_le (most : Nat) (bs : List UInt8) (ok : Bool) : (rtk most bs ok).1 ≤ most := by
  unfold rtk
  split
  · rename_i h; exact h.2.2
  · exact Nat.zero_le _
/-- a reader in a block of its own: what is left lies below B -/
def RB (g B : Nat) (bs : List UInt8) (ok : Bool) (W : World) : Prop :=
  ∃ A n c, W.heap[g]? = some (.cells #[.slice A n c, .bool ok] 83 (0, 0)) ∧ n ≤ c ∧ Rd W B 1 A n (bvs bs) ∧ n ≤ 1099511627776
theorem RB.up {g B : Nat} {bs : List UInt8} {ok : Bool} {W W' : World} (h : RB g B bs ok W) (hB : B ≤ W.heap.size) (hu : Up W W') : RB g B bs ok W' := by
  obtain ⟨A, n, c, h1, h2, h3, h4⟩ := h
  exact ⟨A, n, c, (hu.block _ (Array.getElem?_eq_some_iff.1 h1).1).trans h1, h2, h3.stay hB hu, h4⟩
theorem Rd.keepsLt {w w' : World} {B sz n g : Nat} {A : Option Addr} {xs : List Value} (h : Rd w B sz A n xs) (hB : B ≤ w.heap.size) (hg : B ≤ g) (hK : Rg.Keeps (fun y => y = g) w w') : Rd w' B sz A n xs := by
  refine ⟨h.1, fun hn => ?_⟩
  obtain ⟨b, o, rfl, hb, hc⟩ := h.2 hn
  exact ⟨b, o, rfl, hb, fun j u hu => (World.cell?_of_block (hK.block b (Nat.lt_of_lt_of_le hb hB) (by show ¬ b = g; omega))).trans (hc j u hu)⟩
theorem RB.keeps {g g' B : Nat} {bs : List UInt8} {ok : Bool} {W W' : World} (h : RB g B bs ok W) (hB : B ≤ W.heap.size) (hg : B ≤ g') (hne : g ≠ g') (hK : Rg.Keeps (fun y => y = g') W W') : RB g B bs ok W' := by
  obtain ⟨A, n, c, h1, h2, h3, h4⟩ := h
  exact ⟨A, n, c, (hK.block _ (Array.getElem?_eq_some_iff.1 h1).1 hne).trans h1, h2, h3.keepsLt hB hg hK, h4⟩
set_option maxRecDepth 100000 in
set_option maxHeartbeats 1600000 in
theorem rtake_r (g B : Nat) (bs : List UInt8) (ok : Bool) (most : Nat) (w : World) (h : RB g B bs ok w) (hB : B ≤ w.heap.size) (hg : B ≤ g) (hmost : most < 18446744073709551616) :
    Calls Try.prog 41 #[.pointer (some ⟨g, 0, none⟩), .int .u64 (most : Int)] w fun e w' => e = .returned (.int .u64 ((rtk most bs ok).1 : Int)) ∧ RB g B (rtk most bs ok).2.1 (rtk most bs ok).2.2 w' ∧ Rg.Keeps (fun y => y = g) w w' := by
  obtain ⟨A, n, c, hh, hnc, hrd, hn⟩ := h
  have hr : rtk most bs ok = (if ok = true ∧ (takeL bs).2.2 = 0 ∧ (takeL bs).1 ≤ most then ((takeL bs).1, bs.drop (takeL bs).2.1, true) else (0, bs, false)) := rfl
  have HR := Lib.hid hr
  have hto := fun h => takeL_ok (l := bs) h
  have HTO := Lib.hid hto
  have hnl : n = bs.length := hrd.blen
  have HNL := Lib.hid hnl
  clear hr hto hnl
  have t0 := blk_cell hh 0
  have t1 := blk_cell hh 1
  have s0 := blk_free hh 0
  have s1 := blk_free hh 1
  have CUT := fun (kl : IntKind) (l : Int) (h0 : 0 ≤ l) (h1 : l ≤ n) => cut_from_b w A n c kl l h0 h1
  go_enter Try.func41, Try.ntmps41
  go_wp2_with fail
  refine (take_any A n c bs w (hrd.mono hB) (by omega)).mono ?_
  rintro e w1 ⟨rfl, rfl⟩
  generalize takeL bs = T at *
  obtain ⟨x, k, e⟩ := T
  (try dsimp only at HR HTO ⊢)
  cases ok
  · have hs := setc_heap w g 1 (.bool false) _ _ hh
    have hK := setc_keeps w w g 1 (.bool false) (Rg.Keeps.refl _ _)
    have e2 : rtk most bs false = (0, bs, false) := by rw [HR.out]; rfl
    have HE2 := Lib.hid e2
    clear e2
    go_wp2_with fail
    go_ret
    rw [HE2.out]
    exact ⟨rfl, ⟨A, n, c, hs, hnc, hrd.keepsLt hB hg hK, hn⟩, hK⟩
  · by_cases he : e = 0
    · subst he
      obtain ⟨p1, p2, p3, p4⟩ := HTO.out rfl
      by_cases hx : x ≤ most
      · have hxi : ¬ (most : Int) < (x : Int) := by omega
        have hkn : k ≤ n := by rw [HNL.out]; exact p3
        have e2 : rtk most bs true = (x, bs.drop k, true) := by rw [HR.out, if_pos ⟨rfl, rfl, hx⟩]
        have HE2 := Lib.hid e2
        clear e2
        have hki0 : (0 : Int) ≤ (k : Int) := by omega
        have hki : (k : Int) ≤ (n : Int) := by omega
        have hki2 : (k : Int) ≤ (c : Int) := by omega
        have hfrom := hrd.bfrom hkn hnc
        have hs : (w.setCell ⟨g, 0, none⟩ (.slice (cutA A c k 1) (n - k) (c - k))).heap[g]? = some (.cells #[.slice (cutA A c k 1) (n - k) (c - k), .bool true] 83 (0, 0)) := setc_heap w g 0 _ _ _ hh
        have hK := setc_keeps w w g 0 (.slice (cutA A c k 1) (n - k) (c - k)) (Rg.Keeps.refl _ _)
        go_wp2_with fail
        go_ret
        rw [HE2.out]
        exact ⟨rfl, ⟨cutA A c k 1, n - k, c - k, hs, by omega, hfrom.keepsLt hB hg hK, by omega⟩, hK⟩
      · have hxi : (most : Int) < (x : Int) := by omega
        have hs := setc_heap w g 1 (.bool false) _ _ hh
        have hK := setc_keeps w w g 1 (.bool false) (Rg.Keeps.refl _ _)
        have e2 : rtk most bs true = (0, bs, false) := by rw [HR.out, if_neg (fun h => hx h.2.2)]
        have HE2 := Lib.hid e2
        clear e2
        go_wp2_with fail
        go_ret
        rw [HE2.out]
        exact ⟨rfl, ⟨A, n, c, hs, hnc, hrd.keepsLt hB hg hK, hn⟩, hK⟩
    · have hei : ¬ (e : Int) = 0 := by omega
      have heb : ((e : Int) != 0) = true := by simp; omega
      have hs := setc_heap w g 1 (.bool false) _ _ hh
      have hK := setc_keeps w w g 1 (.bool false) (Rg.Keeps.refl _ _)
      have e2 : rtk most bs true = (0, bs, false) := by rw [HR.out, if_neg (fun h => he h.2.1)]
      have HE2 := Lib.hid e2
      clear e2
      go_wp2_with fail
      go_ret
      rw [HE2.out]
      exact ⟨rfl, ⟨A, n, c, hs, hnc, hrd.keepsLt hB hg hK, hn⟩, hK⟩
end Go.Proofs.Ytokcaoaclheiiaa

/-
  The walk of SameView of clepsydraref12.
-/
namespace Go.Proofs.Ytokcaoaclheiiaa
open Go.RowKit
set_option linter.unusedVariables false
set_option linter.unusedSimpArgs false

def sameV (lg : Int) (l : List Fl) (f ce at_ le : Nat) (lg' : Int) (l' : List Fl) (f' ce' at' le' : Nat) : Bool := decide (lg = lg' ∧ f = f' ∧ ce = ce' ∧ at_ = at' ∧ le = le' ∧ l = l')

set_option maxRecDepth 100000 in
set_option maxHeartbeats 1600000 in
theorem sameView_any (lg : Int) (A : Option Addr) (n c : Nat) (l : List Fl) (f ce at_ le : Nat) (lg' : Int) (A' : Option Addr) (n' c' : Nat) (l' : List Fl) (f' ce' at' le' : Nat) (w : World)
    (hr : Rd w w.heap.size 2 A n (fvs l)) (hr' : Rd w w.heap.size 2 A' n' (fvs l')) (hn : n ≤ 1099511627776) (hn' : n' ≤ 1099511627776) :
    Calls Try.prog 10 #[.agg #[.int .i64 lg, .slice A n c, .int .u64 (f : Int), .int .u64 (ce : Int), .int .u64 (at_ : Int), .int .u64 (le : Int)], .agg #[.int .i64 lg', .slice A' n' c', .int .u64 (f' : Int), .int .u64 (ce' : Int), .int .u64 (at' : Int), .int .u64 (le' : Int)]] w
      fun e w' => e = .returned (.bool (sameV lg l f ce at_ le lg' l' f' ce' at' le')) ∧ Up w w' := by
  have hv : sameV lg l f ce at_ le lg' l' f' ce' at' le' = decide (lg = lg' ∧ f = f' ∧ ce = ce' ∧ at_ = at' ∧ le = le' ∧ l = l') := rfl
  have HV := Lib.hid hv
  have HL := Lib.hid hr.flen
  have HL' := Lib.hid hr'.flen
  clear hv
  obtain ⟨w2, hw2⟩ : ∃ w2, w2 = (w.alloc (.cells #[.int .i64 lg, .slice A n c, .int .u64 (f : Int), .int .u64 (ce : Int), .int .u64 (at_ : Int), .int .u64 (le : Int)] 27)).alloc (.cells #[.int .i64 lg', .slice A' n' c', .int .u64 (f' : Int), .int .u64 (ce' : Int), .int .u64 (at' : Int), .int .u64 (le' : Int)] 27) := ⟨_, rfl⟩
  have hup : Up w w2 := by rw [hw2]; exact ((Up.refl w).alloc _).alloc _
  have h1 : w2.heap[w.heap.size]? = some (.cells #[.int .i64 lg, .slice A n c, .int .u64 (f : Int), .int .u64 (ce : Int), .int .u64 (at_ : Int), .int .u64 (le : Int)] 27 (0, 0)) := by
    rw [hw2, Below.heap_alloc _ _ _ (by simp)]; exact heap_alloc_new w _
  have h2 : w2.heap[w.heap.size + 1]? = some (.cells #[.int .i64 lg', .slice A' n' c', .int .u64 (f' : Int), .int .u64 (ce' : Int), .int .u64 (at' : Int), .int .u64 (le' : Int)] 27 (0, 0)) := by
    rw [hw2]
    have h := heap_alloc_new (w.alloc (.cells #[.int .i64 lg, .slice A n c, .int .u64 (f : Int), .int .u64 (ce : Int), .int .u64 (at_ : Int), .int .u64 (le : Int)] 27)) (.cells #[.int .i64 lg', .slice A' n' c', .int .u64 (f' : Int), .int .u64 (ce' : Int), .int .u64 (at' : Int), .int .u64 (le' : Int)] 27)
    rwa [World.size_alloc] at h
  have HW := Lib.hid hw2
  clear hw2
  by_cases k1 : lg = lg'
  · by_cases k2 : f = f'
    · by_cases k3 : ce = ce'
      · by_cases k4 : at_ = at'
        · by_cases k5 : le = le'
          · by_cases k6 : n = n'
            · subst k1; subst k2; subst k3; subst k4; subst k5; subst k6
              go_enter Try.func10, Try.ntmps10
              go_wp2_with fail
              rw [← HW.out]
              have hr2 := hr.up hup
              have hr2' := hr'.up hup
              generalize w.heap.size + 1 = g2 at *
              generalize w.heap.size = g1 at h1 ⊢
              clear hr hr'
              go_loopw [5] (fun i wr => ∃ k : Nat, i = .int .i64 (k : Int) ∧ k ≤ n ∧ Hid (l.take k = l'.take k) ∧ Up w2 wr) (fun i _ => n - (intOf i).toNat)
              case atStart => exact ⟨0, rfl, by omega, rfl, Up.refl _⟩
              case round =>
                obtain ⟨k, rfl, hk, ht, hu⟩ := hrel
                have e1 := (hu.block _ (Array.getElem?_eq_some_iff.1 h1).1).trans h1
                have e2 := (hu.block _ (Array.getElem?_eq_some_iff.1 h2).1).trans h2
                by_cases hlt : k < n
                · obtain ⟨b, o, x, rfl, hb, hx, c0, c1⟩ := (hr2.up hu).file_at hlt
                  obtain ⟨b', o', x', rfl, hb', hx', d0, d1⟩ := (hr2'.up hu).file_at hlt
                  obtain ⟨x1, x2⟩ := x
                  obtain ⟨y1, y2⟩ := x'
                  simp only [] at c0 c1 d0 d1
                  have hS : ∀ W, Up wr W → Up wr W ∧ W.cell? ⟨g1, 1, none⟩ = some (.slice (some ⟨b, o, none⟩) n c) ∧ W.cell? ⟨g2, 1, none⟩ = some (.slice (some ⟨b', o', none⟩) n c') ∧ W.cell? ⟨b, o + k * 2, none⟩ = some (.int .i64 x1) ∧ W.cell? ⟨b, o + k * 2 + 1, none⟩ = some (.int .i64 x2) ∧ W.cell? ⟨b', o' + k * 2, none⟩ = some (.int .i64 y1) ∧ W.cell? ⟨b', o' + k * 2 + 1, none⟩ = some (.int .i64 y2) := fun W h =>
                    ⟨h, (h.cell (p := ⟨g1, 1, none⟩) (Array.getElem?_eq_some_iff.1 e1).1).trans (blk_cell e1 1), (h.cell (p := ⟨g2, 1, none⟩) (Array.getElem?_eq_some_iff.1 e2).1).trans (blk_cell e2 1), (h.cell (p := ⟨b, o + k * 2, none⟩) hb).trans c0, (h.cell (p := ⟨b, o + k * 2 + 1, none⟩) hb).trans c1, (h.cell (p := ⟨b', o' + k * 2, none⟩) hb').trans d0, (h.cell (p := ⟨b', o' + k * 2 + 1, none⟩) hb').trans d1⟩
                  have hkl : k < l.length := by have := HL.out; omega
                  have hkl' : k < l'.length := by have := HL'.out; omega
                  rw [List.getElem?_eq_getElem hkl] at hx
                  rw [List.getElem?_eq_getElem hkl'] at hx'
                  injection hx with hx
                  injection hx' with hx'
                  have HX := Lib.hid hx
                  have HX' := Lib.hid hx'
                  have q1 := blk_cell e1 1
                  have hki : (k : Int) < (n : Int) := by omega
                  have hkb : decide ((k : Int) < (n : Int)) = true := by simp; omega
                  clear hx hx' c0 c1 d0 d1
                  by_cases m1 : x1 = y1
                  · by_cases m2 : x2 = y2
                    · subst m1; subst m2
                      go_wp2_with fail
                      clear q1
                      apply Rg.region_up _ (by kernel_rfl) (by kernel_rfl) hS
                      · intro QN hQN
                        iterate 11 (apply Rg.RK.ok; (· intro vs w1 hS; go_simp; with_reducible rfl); (· rfl); simp only [Act.put, List.setIfInBounds_toArray, List.set_cons_zero, List.set_cons_succ, Nat.reduceAdd])
                        apply Rg.RK.fin []
                        intro vs w1 hK hS _
                        refine hQN.out _ _ ?_
                        clear hQN
                        go_wp2_with fail
                        go_roundw
                        case rel =>
                          refine ⟨k + 1, by go_num, by omega, ?_, hu.trans (keeps_up hK)⟩
                          show _ = _
                          rw [List.take_succ_eq_append_getElem hkl, List.take_succ_eq_append_getElem hkl', ht.out, HX.out, HX'.out]
                        case measure => simp [intOf]; omega
                      · kernel_rfl
                    · have hne : l ≠ l' := by
                        intro e
                        subst e
                        have h := HX.out.symm.trans HX'.out
                        injection h with h1 h2
                        contradiction
                      have HNE := Lib.hid hne
                      clear hne
                      go_wp2_with fail
                      clear q1
                      apply Rg.region_up _ (by kernel_rfl) (by kernel_rfl) hS
                      · intro QN hQN
                        iterate 11 (apply Rg.RK.ok; (· intro vs w1 hS; go_simp; with_reducible rfl); (· rfl); simp only [Act.put, List.setIfInBounds_toArray, List.set_cons_zero, List.set_cons_succ, Nat.reduceAdd])
                        apply Rg.RK.fin []
                        intro vs w1 hK hS _
                        refine hQN.out _ _ ?_
                        clear hQN
                        go_wp2_with fail
                        go_ret
                        refine ⟨retb ?_, hup.trans (hu.trans (keeps_up hK))⟩
                        rw [HV.out]
                        have := HNE.out
                        simp [this]
                      · kernel_rfl
                  · have hne : l ≠ l' := by
                      intro e
                      subst e
                      have h := HX.out.symm.trans HX'.out
                      injection h with h1 h2
                      contradiction
                    have HNE := Lib.hid hne
                    clear hne
                    go_wp2_with fail
                    clear q1
                    apply Rg.region_up _ (by kernel_rfl) (by kernel_rfl) hS
                    · intro QN hQN
                      iterate 11 (apply Rg.RK.ok; (· intro vs w1 hS; go_simp; with_reducible rfl); (· rfl); simp only [Act.put, List.setIfInBounds_toArray, List.set_cons_zero, List.set_cons_succ, Nat.reduceAdd])
                      apply Rg.RK.fin []
                      intro vs w1 hK hS _
                      refine hQN.out _ _ ?_
                      clear hQN
                      go_wp2_with fail
                      go_ret
                      refine ⟨retb ?_, hup.trans (hu.trans (keeps_up hK))⟩
                      rw [HV.out]
                      have := HNE.out
                      simp [this]
                    · kernel_rfl
                · have q1 := blk_cell e1 1
                  go_wp2_with fail
                  go_ret
                  refine ⟨retb ?_, hup.trans hu⟩
                  have hkn : k = n := by omega
                  have hll : l = l' := by
                    have h := ht.out
                    rwa [List.take_of_length_le (by have := HL.out; omega), List.take_of_length_le (by have := HL'.out; omega)] at h
                  rw [HV.out, hll]
                  simp
            · have hno : sameV lg l f ce at_ le lg' l' f' ce' at' le' = false := by
                rw [HV.out, decide_eq_false_iff_not]
                rintro ⟨z1, z2, z3, z4, z5, z6⟩
                first | contradiction | (apply k6; rw [HL.out, HL'.out, z6])
              have HNO := Lib.hid hno
              clear hno
              (try subst k1)
              (try subst k2)
              (try subst k3)
              (try subst k4)
              (try subst k5)
              go_enter Try.func10, Try.ntmps10
              go_wp2_with fail
              rw [← HW.out]
              go_ret
              refine ⟨retb ?_, hup⟩
              rw [HNO.out]
          · have hno : sameV lg l f ce at_ le lg' l' f' ce' at' le' = false := by
              rw [HV.out, decide_eq_false_iff_not]
              rintro ⟨z1, z2, z3, z4, z5, z6⟩
              first | contradiction | (apply k6; rw [HL.out, HL'.out, z6])
            have HNO := Lib.hid hno
            clear hno
            (try subst k1)
            (try subst k2)
            (try subst k3)
            (try subst k4)
            (try subst k5)
            go_enter Try.func10, Try.ntmps10
            go_wp2_with fail
            rw [← HW.out]
            go_ret
            refine ⟨retb ?_, hup⟩
            rw [HNO.out]
        · have hno : sameV lg l f ce at_ le lg' l' f' ce' at' le' = false := by
            rw [HV.out, decide_eq_false_iff_not]
            rintro ⟨z1, z2, z3, z4, z5, z6⟩
            first | contradiction | (apply k6; rw [HL.out, HL'.out, z6])
          have HNO := Lib.hid hno
          clear hno
          (try subst k1)
          (try subst k2)
          (try subst k3)
          (try subst k4)
          (try subst k5)
          go_enter Try.func10, Try.ntmps10
          go_wp2_with fail
          rw [← HW.out]
          go_ret
          refine ⟨retb ?_, hup⟩
          rw [HNO.out]
      · have hno : sameV lg l f ce at_ le lg' l' f' ce' at' le' = false := by
          rw [HV.out, decide_eq_false_iff_not]
          rintro ⟨z1, z2, z3, z4, z5, z6⟩
          first | contradiction | (apply k6; rw [HL.out, HL'.out, z6])
        have HNO := Lib.hid hno
        clear hno
        (try subst k1)
        (try subst k2)
        (try subst k3)
        (try subst k4)
        (try subst k5)
        go_enter Try.func10, Try.ntmps10
        go_wp2_with fail
        rw [← HW.out]
        go_ret
        refine ⟨retb ?_, hup⟩
        rw [HNO.out]
    · have hno : sameV lg l f ce at_ le lg' l' f' ce' at' le' = false := by
        rw [HV.out, decide_eq_false_iff_not]
        rintro ⟨z1, z2, z3, z4, z5, z6⟩
        first | contradiction | (apply k6; rw [HL.out, HL'.out, z6])
      have HNO := Lib.hid hno
      clear hno
      (try subst k1)
      (try subst k2)
      (try subst k3)
      (try subst k4)
      (try subst k5)
      go_enter Try.func10, Try.ntmps10
      go_wp2_with fail
      rw [← HW.out]
      go_ret
      refine ⟨retb ?_, hup⟩
      rw [HNO.out]
  · have hno : sameV lg l f ce at_ le lg' l' f' ce' at' le' = false := by
      rw [HV.out, decide_eq_false_iff_not]
      rintro ⟨z1, z2, z3, z4, z5, z6⟩
      first | contradiction | (apply k6; rw [HL.out, HL'.out, z6])
    have HNO := Lib.hid hno
    clear hno
    (try subst k1)
    (try subst k2)
    (try subst k3)
    (try subst k4)
    (try subst k5)
    go_enter Try.func10, Try.ntmps10
    go_wp2_with fail
    rw [← HW.out]
    go_ret
    refine ⟨retb ?_, hup⟩
    rw [HNO.out]
end Go.Proofs.Ytokcaoaclheiiaa

/-
  The walks of edit.Whole, slices.Equal at files, edit.Same, Few.
-/
namespace Go.Proofs.Ytokcaoaclheiiaa
open Go.RowKit
set_option linter.unusedVariables false
set_option linter.unusedSimpArgs false

/-- seven cells stored one by one -/
theorem set7 (w : World) (g : Nat) (a0 a1 a2 a3 a4 a5 a6 v0 v1 v2 v3 v4 v5 v6 : Value) (t : TypeId) (h : w.heap[g]? = some (.cells #[a0, a1, a2, a3, a4, a5, a6] t (0, 0))) :
    (((((((w.setCell ⟨g, 0, none⟩ v0).setCell ⟨g, 1, none⟩ v1).setCell ⟨g, 2, none⟩ v2).setCell ⟨g, 3, none⟩ v3).setCell ⟨g, 4, none⟩ v4).setCell ⟨g, 5, none⟩ v5).setCell ⟨g, 6, none⟩ v6).heap[g]? = some (.cells #[v0, v1, v2, v3, v4, v5, v6] t (0, 0)) ∧
    Rg.Keeps (fun x => x = g) w (((((((w.setCell ⟨g, 0, none⟩ v0).setCell ⟨g, 1, none⟩ v1).setCell ⟨g, 2, none⟩ v2).setCell ⟨g, 3, none⟩ v3).setCell ⟨g, 4, none⟩ v4).setCell ⟨g, 5, none⟩ v5).setCell ⟨g, 6, none⟩ v6) := by
  have e0 : (w.setCell ⟨g, 0, none⟩ v0).heap[g]? = some (.cells #[v0, a1, a2, a3, a4, a5, a6] t (0, 0)) := setc_heap _ g 0 v0 _ _ h
  have e1 : ((w.setCell ⟨g, 0, none⟩ v0).setCell ⟨g, 1, none⟩ v1).heap[g]? = some (.cells #[v0, v1, a2, a3, a4, a5, a6] t (0, 0)) := setc_heap _ g 1 v1 _ _ e0
  have e2 : (((w.setCell ⟨g, 0, none⟩ v0).setCell ⟨g, 1, none⟩ v1).setCell ⟨g, 2, none⟩ v2).heap[g]? = some (.cells #[v0, v1, v2, a3, a4, a5, a6] t (0, 0)) := setc_heap _ g 2 v2 _ _ e1
  have e3 : ((((w.setCell ⟨g, 0, none⟩ v0).setCell ⟨g, 1, none⟩ v1).setCell ⟨g, 2, none⟩ v2).setCell ⟨g, 3, none⟩ v3).heap[g]? = some (.cells #[v0, v1, v2, v3, a4, a5, a6] t (0, 0)) := setc_heap _ g 3 v3 _ _ e2
  have e4 : (((((w.setCell ⟨g, 0, none⟩ v0).setCell ⟨g, 1, none⟩ v1).setCell ⟨g, 2, none⟩ v2).setCell ⟨g, 3, none⟩ v3).setCell ⟨g, 4, none⟩ v4).heap[g]? = some (.cells #[v0, v1, v2, v3, v4, a5, a6] t (0, 0)) := setc_heap _ g 4 v4 _ _ e3
  have e5 : ((((((w.setCell ⟨g, 0, none⟩ v0).setCell ⟨g, 1, none⟩ v1).setCell ⟨g, 2, none⟩ v2).setCell ⟨g, 3, none⟩ v3).setCell ⟨g, 4, none⟩ v4).setCell ⟨g, 5, none⟩ v5).heap[g]? = some (.cells #[v0, v1, v2, v3, v4, v5, a6] t (0, 0)) := setc_heap _ g 5 v5 _ _ e4
  have e6 : (((((((w.setCell ⟨g, 0, none⟩ v0).setCell ⟨g, 1, none⟩ v1).setCell ⟨g, 2, none⟩ v2).setCell ⟨g, 3, none⟩ v3).setCell ⟨g, 4, none⟩ v4).setCell ⟨g, 5, none⟩ v5).setCell ⟨g, 6, none⟩ v6).heap[g]? = some (.cells #[v0, v1, v2, v3, v4, v5, v6] t (0, 0)) := setc_heap _ g 6 v6 _ _ e5
  exact ⟨e6, setc_keeps _ _ _ _ _ (setc_keeps _ _ _ _ _ (setc_keeps _ _ _ _ _ (setc_keeps _ _ _ _ _ (setc_keeps _ _ _ _ _ (setc_keeps _ _ _ _ _ (setc_keeps _ _ _ _ _ (Rg.Keeps.refl _ _)))))))⟩

set_option maxRecDepth 100000 in
set_option maxHeartbeats 1600000 in
theorem whole_any (lg : Int) (A : Option Addr) (n c : Nat) (l : List Fl) (f ce at_ le : Nat) (w : World) (hr : Rd w w.heap.size 2 A n (fvs l)) (hn : n ≤ 1099511627776) :
    Calls Try.prog 14 #[.agg #[.int .i64 lg, .slice A n c, .int .u64 (f : Int), .int .u64 (ce : Int), .int .u64 (at_ : Int), .int .u64 (le : Int)]] w
      fun e w' => ∃ R rc, e = .returned (.agg #[.slice none 0 0, .slice R n rc, .int .i64 lg, .int .u64 (f : Int), .int .u64 (ce : Int), .int .u64 (at_ : Int), .int .u64 (le : Int)]) ∧ Rd w' w'.heap.size 2 R n (fvs l) ∧ Up w w' := by
  obtain ⟨w2, hw2⟩ : ∃ w2, w2 = (w.alloc (.cells #[.int .i64 lg, .slice A n c, .int .u64 (f : Int), .int .u64 (ce : Int), .int .u64 (at_ : Int), .int .u64 (le : Int)] 27)).alloc (.cells #[.slice none 0 0, .slice none 0 0, .int .i64 0, .int .u64 0, .int .u64 0, .int .u64 0, .int .u64 0] 32) := ⟨_, rfl⟩
  have hup : Up w w2 := by rw [hw2]; exact ((Up.refl w).alloc _).alloc _
  have h1 : w2.heap[w.heap.size]? = some (.cells #[.int .i64 lg, .slice A n c, .int .u64 (f : Int), .int .u64 (ce : Int), .int .u64 (at_ : Int), .int .u64 (le : Int)] 27 (0, 0)) := by
    rw [hw2, Below.heap_alloc _ _ _ (by simp)]; exact heap_alloc_new w _
  have h2 : w2.heap[w.heap.size + 1]? = some (.cells #[.slice none 0 0, .slice none 0 0, .int .i64 0, .int .u64 0, .int .u64 0, .int .u64 0, .int .u64 0] 32 (0, 0)) := by
    rw [hw2]
    have h := heap_alloc_new (w.alloc (.cells #[.int .i64 lg, .slice A n c, .int .u64 (f : Int), .int .u64 (ce : Int), .int .u64 (at_ : Int), .int .u64 (le : Int)] 27)) (.cells #[.slice none 0 0, .slice none 0 0, .int .i64 0, .int .u64 0, .int .u64 0, .int .u64 0, .int .u64 0] 32)
    rwa [World.size_alloc] at h
  have HW := Lib.hid hw2
  clear hw2
  have hr2 := hr.up hup
  have hl2 := (Array.getElem?_eq_some_iff.1 h2).1
  go_enter Try.func14, Try.ntmps14
  go_wp2_with fail
  rw [← HW.out]
  clear HW
  have hg2 : w.heap.size ≤ w.heap.size + 1 := by omega
  generalize hgr : w.heap.size + 1 = gr at *
  have hgv : ¬ w.heap.size = gr := by omega
  generalize w.heap.size = gv at h1 hgv ⊢
  have hS : ∀ w1, Rg.Keeps (fun g => g = gr) w2.drew w1 → (w1.cell? ⟨gv, 0, none⟩ = some (.int .i64 lg) ∧ w1.cell? ⟨gv, 1, none⟩ = some (.slice A n c) ∧ w1.cell? ⟨gv, 2, none⟩ = some (.int .u64 (f : Int)) ∧ w1.cell? ⟨gv, 3, none⟩ = some (.int .u64 (ce : Int)) ∧ w1.cell? ⟨gv, 4, none⟩ = some (.int .u64 (at_ : Int)) ∧ w1.cell? ⟨gv, 5, none⟩ = some (.int .u64 (le : Int))) := fun w1 hK => by
    have h := (hK.block gv (Array.getElem?_eq_some_iff.1 h1).1 hgv).trans h1
    exact ⟨blk_cell h 0, blk_cell h 1, blk_cell h 2, blk_cell h 3, blk_cell h 4, blk_cell h 5⟩
  apply Rg.region_own 15 _ (fun g => g = gr) (fun W => W.heap[gr]? = some (.cells #[.slice none 0 0, .slice none 0 0, .int .i64 0, .int .u64 0, .int .u64 0, .int .u64 0, .int .u64 0] 32 (0, 0))) rfl (by kernel_rfl) (by kernel_rfl) (by rintro g rfl; exact hl2) h2 (fun w1 w2 h hs => (hs.block gr (Array.getElem?_eq_some_iff.1 h).1 (.inr rfl)).trans h) hS
  · intro QN hQN
    iterate 2 (apply Rg.RK.ok; (· intro vs w1 hS; go_simp; with_reducible rfl); (· rfl); simp only [Act.put, List.setIfInBounds_toArray, List.set_cons_zero, List.set_cons_succ, Nat.reduceAdd])
    apply Rg.RK.opn (fun v W1 => W1.ownsRow w2.heap.size 41 2 v n (fvs l)) Rg.ob [] []
    · exact fun v W1 W2 h hs => row_sta h hs
    · rfl
    · intro vs w4 hK hS hf K hKK
      have hu4 : Up w w4 := keepsUp (wq := w2.drew) hup.drew hg2 hK
      have hnil := World.ownsRow_nil w4 w2.heap.size 41 2
      refine wp_append_rd _ _ _ filesT rfl rfl rfl hnil (hr.up hu4) (fvs_one _) (by omega) (by omega) hK.size fun v' w5 ho' hg' hat' => ?_
      rw [Nat.zero_add, List.nil_append] at ho'
      exact hKK.out _ _ ho' (keeps_grown hnil hg' fun g hg => hg.elim) (own_grown hnil ho' hat' fun g hg => hg.elim)
    simp only [Act.put, List.setIfInBounds_toArray, List.set_cons_zero, List.set_cons_succ, Nat.reduceAdd]
    iterate 10 (apply Rg.RK.ok; (· intro vs w1 hS; go_simp; with_reducible rfl); (· rfl); simp only [Act.put, List.setIfInBounds_toArray, List.set_cons_zero, List.set_cons_succ, Nat.reduceAdd])
    apply Rg.RK.opD (fun vs W => ∃ R rc, vs 2 = .slice R n rc ∧ vs 13 = .agg #[.slice none 0 0, .slice R n rc, .int .i64 lg, .int .u64 (f : Int), .int .u64 (ce : Int), .int .u64 (at_ : Int), .int .u64 (le : Int)]) (fun _ _ => False) [2] [] [2] (fun vs vs' h => by rw [h 2 (by simp), h 13 (by simp)]; exact ⟨rfl, rfl⟩)
    · exact fun _ _ _ h _ => h
    · rfl
    · intro vs w4 hK hS hf K hKK
      obtain ⟨hown, -⟩ := hf
      have hown2 : w4.ownsRow w2.heap.size 41 2 (vs 2) n (fvs l) := hown
      obtain ⟨R, rc, hv⟩ := own_form hown2
      (try dsimp only at hKK ⊢)
      rw [hv] at hKK ⊢
      go_simp
      refine hKK.out _ _ ⟨R, rc, ?_, ?_⟩ (Rg.Keeps.refl _ _) (fun g hg => hg.elim)
      · rw [Rg.upd_ne _ _ (by decide)]; exact hv
      · rw [Rg.upd_same]
    simp only [Act.put, List.setIfInBounds_toArray, List.set_cons_zero, List.set_cons_succ, Nat.reduceAdd]
    apply Rg.RK.opD (fun vs W => ∃ R rc, vs 2 = .slice R n rc ∧ W.heap[gr]? = some (.cells #[.slice none 0 0, .slice R n rc, .int .i64 lg, .int .u64 (f : Int), .int .u64 (ce : Int), .int .u64 (at_ : Int), .int .u64 (le : Int)] 32 (0, 0))) (fun _ g => g = gr) [13, 15] [15] [2] (fun vs vs' h => by rw [h 2 (by simp)]; exact ⟨rfl, rfl⟩)
    · rintro vs W1 W2 ⟨R, rc, hv, hh⟩ hs
      exact ⟨R, rc, hv, (hs.block gr (Array.getElem?_eq_some_iff.1 hh).1 (.inr rfl)).trans hh⟩
    · rfl
    · intro vs w4 hK hS hf K hKK
      obtain ⟨h13, hblk, -⟩ := hf
      obtain ⟨R, rc, hv2, hv13⟩ := h13
      have hblk2 : w4.heap[gr]? = some (.cells #[.slice none 0 0, .slice none 0 0, .int .i64 0, .int .u64 0, .int .u64 0, .int .u64 0, .int .u64 0] 32 (0, 0)) := hblk
      have t0 := blk_cell hblk2 0
      have t1 := blk_cell hblk2 1
      have t2 := blk_cell hblk2 2
      have t3 := blk_cell hblk2 3
      have t4 := blk_cell hblk2 4
      have t5 := blk_cell hblk2 5
      have t6 := blk_cell hblk2 6
      have s0 := blk_free hblk2 0
      have s1 := blk_free hblk2 1
      have s2 := blk_free hblk2 2
      have s3 := blk_free hblk2 3
      have s4 := blk_free hblk2 4
      have s5 := blk_free hblk2 5
      have s6 := blk_free hblk2 6
      have h7 := set7 w4 gr _ _ _ _ _ _ _ (.slice none 0 0) (.slice R n rc) (.int .i64 lg) (.int .u64 (f : Int)) (.int .u64 (ce : Int)) (.int .u64 (at_ : Int)) (.int .u64 (le : Int)) _ hblk2
      (try dsimp only at hKK ⊢)
      rw [hv13] at hKK ⊢
      have HV2 := Lib.hid hv2
      clear hv2 hv13
      go_simp
      refine hKK.out undef _ ⟨R, rc, ?_, h7.1⟩ (Keeps.weak h7.2 fun y hy => ⟨15, List.mem_singleton.2 rfl, hy⟩) (fun y hy => ⟨?_, .inr ⟨15, List.mem_singleton.2 rfl, hy⟩⟩)
      · rw [Rg.upd_ne _ _ (by decide)]; exact HV2.out
      · have hyy : y = gr := hy
        rw [hyy]; exact (Array.getElem?_eq_some_iff.1 h7.1).1
    simp only [Act.put, List.setIfInBounds_toArray, List.set_cons_zero, List.set_cons_succ, Nat.reduceAdd]
    apply Rg.RK.fin [2, 14]
    intro vs w4 hK hS hf
    obtain ⟨hown, h14, -⟩ := hf
    refine hQN.out _ _ ?_
    clear hQN
    obtain ⟨R, rc, hv2, hh⟩ := h14
    have hown2 : w4.ownsRow w2.heap.size 41 2 (vs 2) n (fvs l) := hown
    rw [hv2] at hown2
    have hu4 : Up w w4 := keepsUp (wq := w2.drew) hup.drew hg2 hK
    clear hown hS hK
    have t0 := blk_cell hh 0
    have t1 := blk_cell hh 1
    have t2 := blk_cell hh 2
    have t3 := blk_cell hh 3
    have t4 := blk_cell hh 4
    have t5 := blk_cell hh 5
    have t6 := blk_cell hh 6
    go_wp2_with fail
    refine bodyPost_ret (v := .agg #[.slice none 0 0, .slice R n rc, .int .i64 lg, .int .u64 (f : Int), .int .u64 (ce : Int), .int .u64 (at_ : Int), .int .u64 (le : Int)]) (by simp [results, Try.results14, go_sem, t0, t1, t2, t3, t4, t5, t6]) rfl ?_
    exact ⟨R, rc, rfl, Rd.own hown2, hu4⟩
  · kernel_rfl
set_option maxRecDepth 100000 in
set_option maxHeartbeats 1600000 in
theorem equalF_any (A : Option Addr) (n c : Nat) (l : List Fl) (A' : Option Addr) (n' c' : Nat) (l' : List Fl) (w : World)
    (hr : Rd w w.heap.size 2 A n (fvs l)) (hr' : Rd w w.heap.size 2 A' n' (fvs l')) (hn : n ≤ 1099511627776) (hn' : n' ≤ 1099511627776) :
    Calls Try.prog 35 #[.slice A n c, .slice A' n' c'] w fun e w' => e = .returned (.bool (decide (l = l'))) ∧ Up w w' := by
  have HL := Lib.hid hr.flen
  have HL' := Lib.hid hr'.flen
  by_cases k6 : n = n'
  · subst k6
    go_enter Try.func35, Try.ntmps35
    go_wp2_with fail
    go_loopw [13] (fun i wr => ∃ k : Nat, i = .int .i64 (k : Int) ∧ k ≤ n ∧ Hid (l.take k = l'.take k) ∧ Up w wr) (fun i _ => n - (intOf i).toNat)
    case atStart => exact ⟨0, rfl, by omega, rfl, Up.refl _⟩
    case round =>
      obtain ⟨k, rfl, hk, ht, hu⟩ := hrel
      by_cases hlt : k < n
      · obtain ⟨b, o, x, rfl, hb, hx, c0, c1⟩ := (hr.up hu).file_at hlt
        obtain ⟨b', o', x', rfl, hb', hx', d0, d1⟩ := (hr'.up hu).file_at hlt
        obtain ⟨x1, x2⟩ := x
        obtain ⟨y1, y2⟩ := x'
        simp only [] at c0 c1 d0 d1
        have hS : ∀ W, Up wr W → Up wr W ∧ W.cell? ⟨b, o + k * 2, none⟩ = some (.int .i64 x1) ∧ W.cell? ⟨b, o + k * 2 + 1, none⟩ = some (.int .i64 x2) ∧ W.cell? ⟨b', o' + k * 2, none⟩ = some (.int .i64 y1) ∧ W.cell? ⟨b', o' + k * 2 + 1, none⟩ = some (.int .i64 y2) := fun W h =>
          ⟨h, (h.cell (p := ⟨b, o + k * 2, none⟩) hb).trans c0, (h.cell (p := ⟨b, o + k * 2 + 1, none⟩) hb).trans c1, (h.cell (p := ⟨b', o' + k * 2, none⟩) hb').trans d0, (h.cell (p := ⟨b', o' + k * 2 + 1, none⟩) hb').trans d1⟩
        have hkl : k < l.length := by have := HL.out; omega
        have hkl' : k < l'.length := by have := HL'.out; omega
        rw [List.getElem?_eq_getElem hkl] at hx
        rw [List.getElem?_eq_getElem hkl'] at hx'
        injection hx with hx
        injection hx' with hx'
        have HX := Lib.hid hx
        have HX' := Lib.hid hx'
        have hki : (k : Int) < (n : Int) := by omega
        have hkb : decide ((k : Int) < (n : Int)) = true := by simp; omega
        clear hx hx' c0 c1 d0 d1
        by_cases m1 : x1 = y1
        · by_cases m2 : x2 = y2
          · subst m1; subst m2
            go_wp2_with fail
            apply Rg.region_up _ (by kernel_rfl) (by kernel_rfl) hS
            · intro QN hQN
              iterate 9 (apply Rg.RK.ok; (· intro vs w1 hS; go_simp; with_reducible rfl); (· rfl); simp only [Act.put, List.setIfInBounds_toArray, List.set_cons_zero, List.set_cons_succ, Nat.reduceAdd])
              apply Rg.RK.fin []
              intro vs w1 hK hS _
              refine hQN.out _ _ ?_
              clear hQN
              go_wp2_with fail
              go_roundw
              case rel =>
                refine ⟨k + 1, by go_num, by omega, ?_, hu.trans (keeps_up hK)⟩
                show _ = _
                rw [List.take_succ_eq_append_getElem hkl, List.take_succ_eq_append_getElem hkl', ht.out, HX.out, HX'.out]
              case measure => simp [intOf]; omega
            · kernel_rfl
          · have hne : l ≠ l' := by
              intro e
              subst e
              have h := HX.out.symm.trans HX'.out
              injection h with h1 h2
              contradiction
            have HNE := Lib.hid hne
            clear hne
            go_wp2_with fail
            apply Rg.region_up _ (by kernel_rfl) (by kernel_rfl) hS
            · intro QN hQN
              iterate 9 (apply Rg.RK.ok; (· intro vs w1 hS; go_simp; with_reducible rfl); (· rfl); simp only [Act.put, List.setIfInBounds_toArray, List.set_cons_zero, List.set_cons_succ, Nat.reduceAdd])
              apply Rg.RK.fin []
              intro vs w1 hK hS _
              refine hQN.out _ _ ?_
              clear hQN
              go_wp2_with fail
              go_ret
              refine ⟨retb ?_, hu.trans (keeps_up hK)⟩
              have := HNE.out
              simp [this]
            · kernel_rfl
        · have hne : l ≠ l' := by
            intro e
            subst e
            have h := HX.out.symm.trans HX'.out
            injection h with h1 h2
            contradiction
          have HNE := Lib.hid hne
          clear hne
          go_wp2_with fail
          apply Rg.region_up _ (by kernel_rfl) (by kernel_rfl) hS
          · intro QN hQN
            iterate 9 (apply Rg.RK.ok; (· intro vs w1 hS; go_simp; with_reducible rfl); (· rfl); simp only [Act.put, List.setIfInBounds_toArray, List.set_cons_zero, List.set_cons_succ, Nat.reduceAdd])
            apply Rg.RK.fin []
            intro vs w1 hK hS _
            refine hQN.out _ _ ?_
            clear hQN
            go_wp2_with fail
            go_ret
            refine ⟨retb ?_, hu.trans (keeps_up hK)⟩
            have := HNE.out
            simp [this]
          · kernel_rfl
      · go_wp2_with fail
        go_ret
        refine ⟨retb ?_, hu⟩
        have hkn : k = n := by omega
        have hll : l = l' := by
          have h := ht.out
          rwa [List.take_of_length_le (by have := HL.out; omega), List.take_of_length_le (by have := HL'.out; omega)] at h
        rw [hll]
        simp
  · have hne : decide (l = l') = false := by
      rw [decide_eq_false_iff_not]
      intro e
      apply k6
      rw [HL.out, HL'.out, e]
    have HNE := Lib.hid hne
    clear hne
    go_enter Try.func35, Try.ntmps35
    go_wp2_with fail
    go_ret
    refine ⟨retb ?_, Up.refl _⟩
    rw [HNE.out]
set_option maxRecDepth 100000 in
set_option maxHeartbeats 1600000 in
theorem vsame_any (lg : Int) (A : Option Addr) (n c : Nat) (l : List Fl) (f ce at_ le : Nat) (lg' : Int) (A' : Option Addr) (n' c' : Nat) (l' : List Fl) (f' ce' at' le' : Nat) (w : World)
    (hr : Rd w w.heap.size 2 A n (fvs l)) (hr' : Rd w w.heap.size 2 A' n' (fvs l')) (hn : n ≤ 1099511627776) (hn' : n' ≤ 1099511627776) :
    Calls Try.prog 15 #[.agg #[.int .i64 lg, .slice A n c, .int .u64 (f : Int), .int .u64 (ce : Int), .int .u64 (at_ : Int), .int .u64 (le : Int)], .agg #[.int .i64 lg', .slice A' n' c', .int .u64 (f' : Int), .int .u64 (ce' : Int), .int .u64 (at' : Int), .int .u64 (le' : Int)]] w
      fun e w' => e = .returned (.bool (sameV lg l f ce at_ le lg' l' f' ce' at' le')) ∧ Up w w' := by
  obtain ⟨w2, hw2⟩ : ∃ w2, w2 = (w.alloc (.cells #[.int .i64 lg, .slice A n c, .int .u64 (f : Int), .int .u64 (ce : Int), .int .u64 (at_ : Int), .int .u64 (le : Int)] 27)).alloc (.cells #[.int .i64 lg', .slice A' n' c', .int .u64 (f' : Int), .int .u64 (ce' : Int), .int .u64 (at' : Int), .int .u64 (le' : Int)] 27) := ⟨_, rfl⟩
  have hup : Up w w2 := by rw [hw2]; exact ((Up.refl w).alloc _).alloc _
  have h1 : w2.heap[w.heap.size]? = some (.cells #[.int .i64 lg, .slice A n c, .int .u64 (f : Int), .int .u64 (ce : Int), .int .u64 (at_ : Int), .int .u64 (le : Int)] 27 (0, 0)) := by
    rw [hw2, Below.heap_alloc _ _ _ (by simp)]; exact heap_alloc_new w _
  have h2 : w2.heap[w.heap.size + 1]? = some (.cells #[.int .i64 lg', .slice A' n' c', .int .u64 (f' : Int), .int .u64 (ce' : Int), .int .u64 (at' : Int), .int .u64 (le' : Int)] 27 (0, 0)) := by
    rw [hw2]
    have h := heap_alloc_new (w.alloc (.cells #[.int .i64 lg, .slice A n c, .int .u64 (f : Int), .int .u64 (ce : Int), .int .u64 (at_ : Int), .int .u64 (le : Int)] 27)) (.cells #[.int .i64 lg', .slice A' n' c', .int .u64 (f' : Int), .int .u64 (ce' : Int), .int .u64 (at' : Int), .int .u64 (le' : Int)] 27)
    rwa [World.size_alloc] at h
  have HW := Lib.hid hw2
  clear hw2
  have hr2 := hr.up hup
  have hr2' := hr'.up hup
  clear hr hr'
  obtain ⟨bq, hbq⟩ : ∃ bq, bq = decide (l = l') := ⟨_, rfl⟩
  have hv : sameV lg l f ce at_ le lg' l' f' ce' at' le' = (bq && decide (lg = lg') && decide (f = f') && decide (ce = ce') && decide (at_ = at') && decide (le = le')) := by
    unfold sameV
    rw [hbq, Bool.eq_iff_iff]
    simp only [decide_eq_true_eq, Bool.and_eq_true]
    constructor
    · rintro ⟨a1, a2, a3, a4, a5, a6⟩; exact ⟨⟨⟨⟨⟨a6, a1⟩, a2⟩, a3⟩, a4⟩, a5⟩
    · rintro ⟨⟨⟨⟨⟨a6, a1⟩, a2⟩, a3⟩, a4⟩, a5⟩; exact ⟨a1, a2, a3, a4, a5, a6⟩
  have HV := Lib.hid hv
  have HBQ := Lib.hid hbq
  clear hv hbq
  go_enter Try.func15, Try.ntmps15
  go_wp2_with fail
  rw [← HW.out]
  clear HW
  generalize w.heap.size + 1 = g2 at *
  generalize w.heap.size = g1 at h1 ⊢
  refine (equalF_any A n c l A' n' c' l' w2 hr2 hr2' hn hn').mono ?_
  rintro e w3 ⟨rfl, hu3⟩
  rw [← HBQ.out]
  have e1 := (hu3.block _ (Array.getElem?_eq_some_iff.1 h1).1).trans h1
  have e2 := (hu3.block _ (Array.getElem?_eq_some_iff.1 h2).1).trans h2
  have hup3 := hup.trans hu3
  clear h1 h2 hup hu3 hr2 hr2' HBQ
  have t0 := blk_cell e1 0
  have t2 := blk_cell e1 2
  have t3 := blk_cell e1 3
  have t4 := blk_cell e1 4
  have t5 := blk_cell e1 5
  have s0 := blk_cell e2 0
  have s2 := blk_cell e2 2
  have s3 := blk_cell e2 3
  have s4 := blk_cell e2 4
  have s5 := blk_cell e2 5
  clear e1 e2
  cases bq
  · (try subst k1)
    (try subst k2)
    (try subst k3)
    (try subst k4)
    (try subst k5)
    go_wp2_with fail
    go_ret
    refine ⟨retb ?_, hup3⟩
    rw [HV.out]
    first | rfl | (simp [*]; done) | (simp [*]; omega)
  · by_cases k1 : lg = lg'
    · by_cases k2 : f = f'
      · by_cases k3 : ce = ce'
        · by_cases k4 : at_ = at'
          · by_cases k5 : le = le'
            · (try subst k1)
              (try subst k2)
              (try subst k3)
              (try subst k4)
              (try subst k5)
              go_wp2_with fail
              go_ret
              refine ⟨retb ?_, hup3⟩
              rw [HV.out]
              first | rfl | (simp [*]; done) | (simp [*]; omega)
            · (try subst k1)
              (try subst k2)
              (try subst k3)
              (try subst k4)
              (try subst k5)
              go_wp2_with fail
              go_ret
              refine ⟨retb ?_, hup3⟩
              rw [HV.out]
              first | rfl | (simp [*]; done) | (simp [*]; omega)
          · (try subst k1)
            (try subst k2)
            (try subst k3)
            (try subst k4)
            (try subst k5)
            go_wp2_with fail
            go_ret
            refine ⟨retb ?_, hup3⟩
            rw [HV.out]
            first | rfl | (simp [*]; done) | (simp [*]; omega)
        · (try subst k1)
          (try subst k2)
          (try subst k3)
          (try subst k4)
          (try subst k5)
          go_wp2_with fail
          go_ret
          refine ⟨retb ?_, hup3⟩
          rw [HV.out]
          first | rfl | (simp [*]; done) | (simp [*]; omega)
      · (try subst k1)
        (try subst k2)
        (try subst k3)
        (try subst k4)
        (try subst k5)
        go_wp2_with fail
        go_ret
        refine ⟨retb ?_, hup3⟩
        rw [HV.out]
        first | rfl | (simp [*]; done) | (simp [*]; omega)
    · (try subst k1)
      (try subst k2)
      (try subst k3)
      (try subst k4)
      (try subst k5)
      go_wp2_with fail
      go_ret
      refine ⟨retb ?_, hup3⟩
      rw [HV.out]
      first | rfl | (simp [*]; done) | (simp [*]; omega)
set_option maxRecDepth 100000 in
theorem few_any (D : Option Addr) (dn dc : Nat) (A : Option Addr) (an ac : Nat) (lg : Int) (f ce at_ le : Nat) (w : World) :
    Calls Try.prog 12 #[.agg #[.slice D dn dc, .slice A an ac, .int .i64 lg, .int .u64 (f : Int), .int .u64 (ce : Int), .int .u64 (at_ : Int), .int .u64 (le : Int)]] w fun e w' => e = .returned (.bool (decide (dn ≤ 60 ∧ an ≤ 60))) ∧ Up w w' := by
  by_cases h1 : dn ≤ 60
  · by_cases h2 : an ≤ 60
    · have e : decide (dn ≤ 60 ∧ an ≤ 60) = true := by simp; omega
      rw [e]
      clear e
      have d1 : (dn : Int) ≤ 60 := by omega
      have d2 : (an : Int) ≤ 60 := by omega
      go_enter Try.func12, Try.ntmps12
      go_wp2_with fail
      go_ret
      refine ⟨retb ?_, (Up.refl w).alloc _⟩
      first | (simp; done) | (simp; omega)
    · have e : decide (dn ≤ 60 ∧ an ≤ 60) = false := by simp; omega
      rw [e]
      clear e
      have d1 : (dn : Int) ≤ 60 := by omega
      have d2 : ¬ (an : Int) ≤ 60 := by omega
      go_enter Try.func12, Try.ntmps12
      go_wp2_with fail
      go_ret
      refine ⟨retb ?_, (Up.refl w).alloc _⟩
      first | (simp; done) | (simp; omega)
  · have e : decide (dn ≤ 60 ∧ an ≤ 60) = false := by simp; omega
    rw [e]
    clear e
    have d1 : ¬ (dn : Int) ≤ 60 := by omega
    go_enter Try.func12, Try.ntmps12
    go_wp2_with fail
    go_ret
    exact ⟨rfl, (Up.refl w).alloc _⟩
end Go.Proofs.Ytokcaoaclheiiaa

/-
  Plain laws of numbers as bytes.
-/
namespace Go.Proofs.Ytokcaoaclheiiaa
open Go.RowKit
set_option linter.unusedVariables false

theorem pow_split (x i : Nat) : x % 128 * 128 ^ i + x / 128 * 128 ^ (i + 1) = x * 128 ^ i := by
  have h := Nat.mod_add_div x 128
  calc x % 128 * 128 ^ i + x / 128 * 128 ^ (i + 1) = (x % 128 + 128 * (x / 128)) * 128 ^ i := by rw [Nat.pow_succ, Nat.add_mul]; congr 1; rw [Nat.mul_comm 128, Nat.mul_assoc, Nat.mul_comm 128]
    _ = x * 128 ^ i := by rw [h]
theorem takeGo_numB (r : List UInt8) : ∀ (n x i acc : Nat), x ≤ n → i ≤ 9 → x < 2 ^ (64 - 7 * i) → (0 < i → 0 < x) → takeGo (numB x ++ r) i acc = (acc + x * 128 ^ i, i + (numB x).length, 0) := by
  intro n
  induction n with
  | zero =>
    intro x i acc hx hi h1 h2
    have h0 : x = 0 := by omega
    subst h0
    have : i = 0 := by rcases Nat.eq_zero_or_pos i with h | h; exact h; exact absurd (h2 h) (by omega)
    subst this
    rw [numB_lo (by omega)]
    exact takeGo_end (by simp) (by decide)
  | succ n ih =>
    intro x i acc hx hi h1 h2
    by_cases hlt : x < 128
    · rw [numB_lo hlt]
      have e : (UInt8.ofNat x).toNat = x := by simp; omega
      rw [List.cons_append, List.nil_append, takeGo_end, e]
      · rw [Nat.mod_eq_of_lt hlt]; rfl
      · rw [e]
        rintro (⟨h9, hx1⟩ | ⟨h0, hx0⟩)
        · subst h9; simp at h1; omega
        · have := h2 h0; omega
      · rw [e]; exact hlt
    · rw [numB_hi hlt]
      have e : (UInt8.ofNat (x % 128 + 128)).toNat = x % 128 + 128 := by simp; omega
      have h8 : i ≤ 8 := by
        rcases Nat.lt_or_ge i 9 with h | h
        · omega
        · have : i = 9 := by omega
          subst this; simp at h1; omega
      rw [List.cons_append, takeGo_more, e, ih (x / 128) (i + 1) _ (by omega) (by omega) ?_ (fun _ => by omega)]
      · rw [show (x % 128 + 128) % 128 = x % 128 by omega, Nat.add_assoc, pow_split, List.length_cons]
        simp only [Prod.mk.injEq, and_true, true_and]; omega
      · rw [Nat.div_lt_iff_lt_mul (by decide), show (128 : Nat) = 2 ^ 7 from rfl, ← Nat.pow_add]
        rw [show 64 - 7 * (i + 1) + 7 = 64 - 7 * i by omega]; exact h1
      · rw [e]; omega
      · rw [e]; omega
theorem takeL_numB (x : Nat) (r : List UInt8) (hx : x < 18446744073709551616) : takeL (numB x ++ r) = (x, (numB x).length, 0) := by
  have := takeGo_numB r x x 0 0 (Nat.le_refl _) (by omega) (by simpa using hx) (fun h => absurd h (by omega))
  unfold takeL
  rw [this]; simp
theorem takeL_nil : takeL [] = (0, 0, 4) := rfl
theorem numsB_drop (q : List UInt64) (k : Nat) : (numsB q).drop (numsB (q.take k)).length = numsB (q.drop k) := by
  have : numsB q = numsB (q.take k) ++ numsB (q.drop k) := by unfold numsB; rw [← List.flatMap_append, List.take_append_drop]
  rw [this, List.drop_left]
theorem numsB_cons (x : UInt64) (q : List UInt64) : numsB (x :: q) = numB x.toNat ++ numsB q := by simp [numsB]
theorem foldN_eightB (x : Nat) (hx : x < 18446744073709551616) : foldN (eightB x) = x := by
  have e : eightB x = [UInt8.ofNat (x / 2 ^ 56), UInt8.ofNat (x / 2 ^ 48), UInt8.ofNat (x / 2 ^ 40), UInt8.ofNat (x / 2 ^ 32), UInt8.ofNat (x / 2 ^ 24), UInt8.ofNat (x / 2 ^ 16), UInt8.ofNat (x / 2 ^ 8), UInt8.ofNat (x / 2 ^ 0)] := rfl
  rw [e]
  simp only [foldN, List.foldl_cons, List.foldl_nil, UInt8.toNat_ofNat']
  omega
theorem uneightL_eightB (x : Nat) (hx : x < 18446744073709551616) : uneightL (eightB x) = (x, 0) := by
  unfold uneightL
  rw [eightB_len, if_neg (by omega), List.take_of_length_le (by rw [eightB_len]; omega), foldN_eightB x hx]
theorem numB_inj {a b : Nat} (ha : a < 18446744073709551616) (hb : b < 18446744073709551616) (h : numB a = numB b) : a = b := by
  have h1 := takeL_numB a [] ha
  have h2 := takeL_numB b [] hb
  rw [h, h2] at h1
  exact (Prod.mk.inj h1).1.symm
theorem numB_mono : ∀ (n a b : Nat), b ≤ n → a ≤ b → (numB a).length ≤ (numB b).length := by
  intro n
  induction n with
  | zero => intro a b hb hab; rw [show a = b by omega]; exact Nat.le_refl _
  | succ n ih =>
    intro a b hb hab
    by_cases h1 : a < 128
    · rw [numB_lo h1]; exact numB_pos b
    · rw [numB_hi h1, numB_hi (show ¬ b < 128 by omega)]
      have := ih (a / 128) (b / 128) (by omega) (Nat.div_le_div_right hab)
      simp only [List.length_cons]; omega
/-- what bytes come to as one number, the highest first -/
def valB : List UInt8 → Nat
  | [] => 0
  | c :: r => c.toNat * 256 ^ r.length + valB r
theorem valB_lt (l : List UInt8) : valB l < 256 ^ l.length := by
  induction l with
  | nil => simp [valB]
  | cons c r ih =>
    have hc := c.toNat_lt
    have h1 : c.toNat * 256 ^ r.length ≤ 255 * 256 ^ r.length := Nat.mul_le_mul_right _ (by omega)
    simp only [valB, List.length_cons, Nat.pow_succ]; omega
theorem foldl_valB (l : List UInt8) : ∀ a : Nat, l.foldl (fun a c => a * 256 + c.toNat) a = a * 256 ^ l.length + valB l := by
  induction l with
  | nil => intro a; simp [valB]
  | cons c r ih =>
    intro a
    rw [List.foldl_cons, ih, valB, List.length_cons, Nat.pow_succ, Nat.add_mul, Nat.mul_assoc, Nat.mul_comm 256, Nat.add_assoc]
theorem foldN_valB (l : List UInt8) : foldN l = valB l := by unfold foldN; rw [foldl_valB]; simp
theorem less_valB : ∀ (l m : List UInt8), l.length = m.length → Op.bytesLess l m = decide (valB l < valB m)
  | [], [], _ => by simp [Op.bytesLess]
  | c :: r, d :: s, h => by
    have hl : r.length = s.length := by simpa using h
    have ih := less_valB r s hl
    have h1 := valB_lt r
    have h2 := valB_lt s
    rw [hl] at h1
    simp only [Op.bytesLess, valB, ih, hl]
    by_cases hcd : c < d
    · have hcd' : c.toNat < d.toNat := UInt8.lt_iff_toNat_lt.1 hcd
      have hm : (c.toNat + 1) * 256 ^ s.length ≤ d.toNat * 256 ^ s.length := Nat.mul_le_mul_right _ hcd'
      rw [Nat.add_mul] at hm
      have : c.toNat * 256 ^ s.length + valB r < d.toNat * 256 ^ s.length + valB s := by omega
      simp [hcd, this]
    · by_cases he : c = d
      · subst he; simp
      · have hcd' : d.toNat < c.toNat := by
          have h3 : ¬ c.toNat < d.toNat := fun h => hcd (UInt8.lt_iff_toNat_lt.2 h)
          have h4 : c.toNat ≠ d.toNat := fun h => he (UInt8.toNat_inj.1 h)
          omega
        have hm : (d.toNat + 1) * 256 ^ s.length ≤ c.toNat * 256 ^ s.length := Nat.mul_le_mul_right _ hcd'
        rw [Nat.add_mul] at hm
        have : ¬ c.toNat * 256 ^ s.length + valB r < d.toNat * 256 ^ s.length + valB s := by omega
        simp [hcd, he, this]
theorem less_eightB {a b : Nat} (ha : a < 18446744073709551616) (hb : b < 18446744073709551616) : Op.bytesLess (eightB a) (eightB b) = decide (a < b) := by
  rw [less_valB _ _ (by rw [eightB_len, eightB_len]), ← foldN_valB, ← foldN_valB, foldN_eightB a ha, foldN_eightB b hb]
theorem eightB_inj {a b : Nat} (ha : a < 18446744073709551616) (hb : b < 18446744073709551616) (h : eightB a = eightB b) : a = b := by
  rw [← foldN_eightB a ha, ← foldN_eightB b hb, h]
/-! ### lists -/
theorem takeGo_cut : ∀ (n x j i acc : Nat), x ≤ n → i ≤ 9 → x < 2 ^ (64 - 7 * i) → (0 < i → 0 < x) → j < (numB x).length → takeGo ((numB x).take j) i acc = (0, 0, 4) := by
  intro n
  induction n with
  | zero =>
    intro x j i acc hx hi h1 h2 hj
    have h0 : x = 0 := by omega
    subst h0
    rw [numB_lo (by omega)] at hj ⊢
    have : j = 0 := by simpa using hj
    subst this
    rfl
  | succ n ih =>
    intro x j i acc hx hi h1 h2 hj
    by_cases hlt : x < 128
    · rw [numB_lo hlt] at hj ⊢
      have : j = 0 := by simpa using hj
      subst this
      rfl
    · rw [numB_hi hlt] at hj ⊢
      have e : (UInt8.ofNat (x % 128 + 128)).toNat = x % 128 + 128 := by simp; omega
      have h8 : i ≤ 8 := by
        rcases Nat.lt_or_ge i 9 with h | h
        · omega
        · have : i = 9 := by omega
          subst this; simp at h1; omega
      cases j with
      | zero => rfl
      | succ j =>
        rw [List.take_succ_cons, takeGo_more, e]
        · refine ih (x / 128) j (i + 1) _ (by omega) (by omega) ?_ (fun _ => by omega) (by simpa using hj)
          rw [Nat.div_lt_iff_lt_mul (by decide), show (128 : Nat) = 2 ^ 7 from rfl, ← Nat.pow_add]
          rw [show 64 - 7 * (i + 1) + 7 = 64 - 7 * i by omega]; exact h1
        · rw [e]; omega
        · rw [e]; omega
theorem takeL_cut {x j : Nat} (hx : x < 18446744073709551616) (hj : j < (numB x).length) : takeL ((numB x).take j) = (0, 0, 4) :=
  takeGo_cut x x j 0 0 (Nat.le_refl _) (by omega) (by simpa using hx) (fun h => absurd h (by omega)) hj
theorem unGo_full (q : List UInt64) : ∀ (pre r : List UInt8) (acc : List UInt64), unGo q.length (pre ++ (numsB q ++ r)) pre.length acc = (acc ++ q, pre.length + (numsB q).length, 0) := by
  induction q with
  | nil => intro pre r acc; simp [unGo, numsB]
  | cons x q ih =>
    intro pre r acc
    rw [List.length_cons, unGo, List.drop_left, numsB_cons, List.append_assoc, takeL_numB _ _ x.toNat_lt]
    have h := ih (pre ++ numB x.toNat) r (acc ++ [UInt64.ofNat x.toNat])
    rw [List.length_append, List.append_assoc] at h
    simp only [if_true]
    rw [h]
    simp [Nat.add_assoc]
theorem unGo_cut (q : List UInt64) : ∀ (pre : List UInt8) (j : Nat) (acc : List UInt64), j < (numsB q).length → unGo q.length (pre ++ (numsB q).take j) pre.length acc = ([], 0, 4) := by
  induction q with
  | nil => intro pre j acc h; simp [numsB] at h
  | cons x q ih =>
    intro pre j acc hj
    rw [numsB_cons] at hj ⊢
    rw [List.length_cons, unGo, List.drop_left]
    by_cases h : j < (numB x.toNat).length
    · rw [List.take_append_of_le_length (by omega), takeL_cut x.toNat_lt h]; simp
    · have e : (numB x.toNat ++ numsB q).take j = numB x.toNat ++ (numsB q).take (j - (numB x.toNat).length) := by
        rw [List.take_append]
        rw [List.take_of_length_le (by omega)]
      rw [e, takeL_numB _ _ x.toNat_lt]
      have h2 := ih (pre ++ numB x.toNat) (j - (numB x.toNat).length) (acc ++ [UInt64.ofNat x.toNat]) (by rw [List.length_append] at hj; omega)
      rw [List.length_append, List.append_assoc] at h2
      simp only [if_true]
      exact h2
theorem unlist_full (q : List UInt64) (r : List UInt8) (most : Int) (hq : q.length < 18446744073709551616) (hm : (q.length : Int) ≤ most) : unlistL (listB q ++ r) most = (q, (listB q).length, 0) := by
  unfold unlistL listB
  rw [List.append_assoc, takeL_numB _ _ hq]
  rw [if_neg (by simp), if_neg (by split <;> omega)]
  rw [unGo_full]
  simp
theorem unlist_long (q : List UInt64) (r : List UInt8) (most : Int) (hq : q.length < 18446744073709551616) (hm : most < (q.length : Int)) (h0 : 0 < q.length) : unlistL (listB q ++ r) most = ([], 0, 2) := by
  unfold unlistL listB
  rw [List.append_assoc, takeL_numB _ _ hq]
  rw [if_neg (by simp), if_pos (by split <;> omega)]
theorem unlist_cut (q : List UInt64) (j : Nat) (most : Int) (hq : q.length < 18446744073709551616) (hm : (q.length : Int) ≤ most) (hj : j < (listB q).length) : unlistL ((listB q).take j) most = ([], 0, 4) := by
  unfold unlistL
  by_cases h : j < (numB q.length).length
  · have e : (listB q).take j = (numB q.length).take j := by unfold listB; rw [List.take_append_of_le_length (by omega)]
    rw [e, takeL_cut hq h]; simp
  · have e : (listB q).take j = numB q.length ++ (numsB q).take (j - (numB q.length).length) := by
      unfold listB; rw [List.take_append, List.take_of_length_le (by omega)]
    rw [e, takeL_numB _ _ hq, if_neg (by simp), if_neg (by split <;> omega)]
    exact unGo_cut q _ _ _ (by unfold listB at hj; rw [List.length_append] at hj; omega)
theorem listB_pos (q : List UInt64) : 1 ≤ (listB q).length := by unfold listB; rw [List.length_append]; have := numB_pos q.length; omega
theorem listB_len (q : List UInt64) (hq : q.length < 18446744073709551616) : (listB q).length ≤ 10 + 10 * q.length := by
  unfold listB; rw [List.length_append]; have := numB_ten hq; have := numsB_len q; omega

theorem unGo_len : ∀ (k : Nat) (l : List UInt8) (a : Nat) (acc : List UInt64), (unGo k l a acc).1.length ≤ acc.length + (l.length - a)
  | 0, l, a, acc => by simp only [unGo]; omega
  | k + 1, l, a, acc => by
    rw [unGo]
    split
    · rename_i h
      have h2 := takeL_ok h
      have h3 := unGo_len k l (a + (takeL (l.drop a)).2.1) (acc ++ [UInt64.ofNat (takeL (l.drop a)).1])
      simp only [List.length_append, List.length_singleton, List.length_drop] at h2 h3
      omega
    · simp
theorem unlistL_len (l : List UInt8) (most : Int) : (unlistL l most).1.length ≤ l.length := by
  have h := unGo_len (takeL l).1 l (takeL l).2.1 []
  simp only [List.length_nil] at h
  unfold unlistL
  by_cases h1 : (takeL l).2.2 ≠ 0
  · rw [if_pos h1]; simp
  · rw [if_neg h1]
    by_cases h2 : (if most < 0 then 0 else most) < ((takeL l).1 : Int)
    · rw [if_pos h2]; simp
    · rw [if_neg h2]; omega

/-! ### numbers that are none -/
/-- a byte more than is needed: the last byte's highest bit set, nought behind it -/
theorem takeGo_more0 : ∀ (n x i acc : Nat), x ≤ n → ∀ l c, numB x = l ++ [c] → takeGo (l ++ [UInt8.ofNat (c.toNat % 128 + 128), 0]) i acc = (0, 0, 3) := by
  intro n
  induction n with
  | zero =>
    intro x i acc hx l c h
    rw [numB_lo (by omega)] at h
    cases l with
    | nil => exact step0 i acc _
    | cons d l => have := congrArg List.length h; simp at this
  | succ n ih =>
    intro x i acc hx l c h
    by_cases hlt : x < 128
    · rw [numB_lo hlt] at h
      cases l with
      | nil => exact step0 i acc _
      | cons d l => have := congrArg List.length h; simp at this
    · rw [numB_hi hlt] at h
      cases l with
      | nil =>
        have h1 := numB_pos (x / 128)
        have := congrArg List.length h; simp at this
        rw [this] at h1; simp at h1
      | cons d l =>
        rw [List.cons_append, List.cons.injEq] at h
        obtain ⟨rfl, h2⟩ := h
        rw [List.cons_append]
        by_cases hf : (i = 9 ∧ 1 < (UInt8.ofNat (x % 128 + 128)).toNat) ∨ (0 < i ∧ (UInt8.ofNat (x % 128 + 128)).toNat = 0)
        · exact takeGo_form hf
        · rw [takeGo_more hf (by simp; omega)]
          exact ih (x / 128) _ _ (by omega) l c h2
where
  step0 (i acc : Nat) (c : UInt8) : takeGo ([] ++ [UInt8.ofNat (c.toNat % 128 + 128), 0]) i acc = (0, 0, 3) := by
    rw [List.nil_append]
    by_cases hf : (i = 9 ∧ 1 < (UInt8.ofNat (c.toNat % 128 + 128)).toNat) ∨ (0 < i ∧ (UInt8.ofNat (c.toNat % 128 + 128)).toNat = 0)
    · exact takeGo_form hf
    · rw [takeGo_more hf (by simp; omega)]
      exact takeGo_form (.inr ⟨by omega, rfl⟩)
theorem takeL_more0 {x : Nat} {l : List UInt8} {c : UInt8} (h : numB x = l ++ [c]) : takeL (l ++ [UInt8.ofNat (c.toNat % 128 + 128), 0]) = (0, 0, 3) :=
  takeGo_more0 x x 0 0 (Nat.le_refl _) l c h
theorem takeL_great (c : UInt8) (h : 1 < c.toNat) : takeL [255, 255, 255, 255, 255, 255, 255, 255, 255, c] = (0, 0, 3) := by
  unfold takeL
  iterate 9 (rw [takeGo_more (by decide) (by decide)])
  exact takeGo_form (.inl ⟨rfl, h⟩)

/-! ### a mask -/
theorem i64_and_le (a : Int) (m : Nat) (hm : m < 9223372036854775808) : ∃ k : Nat, bits .and .i64 a (m : Int) = (k : Int) ∧ k ≤ m := by
  refine ⟨(BitVec.ofInt 64 a).toNat &&& m, ?_, Nat.and_le_right⟩
  have hk : (BitVec.ofInt 64 a).toNat &&& m ≤ m := Nat.and_le_right
  show IntKind.i64.wrap ((BitVec.ofInt 64 a &&& BitVec.ofInt 64 (m : Int)).toNat : Int) = _
  rw [BitVec.toNat_and, ofInt_u64 m (by omega), IntKind.wrap_i64]
  omega
end Go.Proofs.Ytokcaoaclheiiaa

/-
  The walk of frame.Split.
-/
namespace Go.Proofs.Ytokcaoaclheiiaa
open Go.RowKit
set_option linter.unusedVariables false
set_option linter.unusedSimpArgs false

/-- an append to a row of one element type keeps the rows of another one -/
theorem own_far {w w' : World} {base base' : Nat} {e e' : TypeId} {sz sz' n n' : Nat} {v v' : Value} {xs xs' : List Value} (h : w.ownsRow base e sz v n xs) (h' : w.ownsRow base' e' sz' v' n' xs') (hne : e ≠ e') (hg : w.grownBy w' v.ownBlock) : w'.ownsRow base' e' sz' v' n' xs' := by
  refine ⟨h'.1, ?_⟩
  rcases h'.2 with h2 | ⟨g, cap, cur, rfl, hb, hh, r⟩
  · exact .inl h2
  · refine .inr ⟨g, cap, cur, rfl, hb, (hg.block g (Array.getElem?_eq_some_iff.1 hh).1 (fun e0 => ?_)).trans hh, r⟩
    rcases h.2 with ⟨rfl, _⟩ | ⟨g1, cap1, cur1, rfl, _, hh1, _⟩
    · simp [Value.ownBlock] at e0
    · have : g1 = g := by simpa [Value.ownBlock] using e0.symm
      subst this
      rw [hh] at hh1
      injection hh1 with hh1
      injection hh1 with _ ht
      exact hne ht.symm
def nvi (l : List Nat) : List Value := l.map fun (k : Nat) => Value.int .i64 (k : Int)
theorem nvi_one (l : List Nat) : ∀ u ∈ nvi l, u.oneCell' = true := by
  intro u hu; simp only [nvi, List.mem_map] at hu; obtain ⟨b, _, rfl⟩ := hu; rfl
theorem pv_one (l : List Pt) : ∀ u ∈ l.map Pt.v, u.oneCell' = true := by
  intro u hu; simp only [List.mem_map] at hu; obtain ⟨b, _, rfl⟩ := hu; rfl

/-- Split: the kinds, the bodies, where it ends, the error -/
def splitG (l : List UInt8) : Nat → Nat → List Nat → List (List UInt8) → List Nat × List (List UInt8) × Nat × Nat
  | 0, k, ks, bs => (ks, bs, k, 0)
  | f + 1, k, ks, bs => if k < l.length then
      (if (takeR (l.drop k)).1 = 0 then splitG l f (k + (takeR (l.drop k)).2.2.2) (ks ++ [(takeR (l.drop k)).2.1]) (bs ++ [(takeR (l.drop k)).2.2.1]) else (ks, bs, k, (takeR (l.drop k)).1))
    else (ks, bs, k, 0)
def splitL (l : List UInt8) : List Nat × List (List UInt8) × Nat × Nat := splitG l (l.length + 1) 0 [] []
theorem takeR_ok {r : List UInt8} (h : (takeR r).1 = 0) : 12 ≤ (takeR r).2.2.2 ∧ (takeR r).2.2.2 ≤ r.length ∧ (takeR r).2.2.2 = (takeR r).2.2.1.length + 12 ∧ (takeR r).2.1 < 256 := by
  unfold takeR at h ⊢
  have hb : (r.getD 0 0).toNat < 256 := (r.getD 0 0).toNat_lt
  split at h
  · cases h
  · rename_i h1
    rw [if_neg h1]
    split at h
    · rename_i h2; exact absurd h h2
    · rename_i h2
      rw [if_neg h2]
      split at h
      · cases h
      · rename_i h3
        rw [if_neg h3]
        split at h
        · cases h
        · rename_i h4
          rw [if_neg h4]
          split at h
          · rename_i h5; exact absurd h h5
          · rename_i h5
            rw [if_neg h5]
            simp only [List.length_take, List.length_drop]
            omega

/-- slices of the call's own, and what they hold -/
def Pts (w : World) (base : Nat) (ps : List Pt) (bs : List (List UInt8)) : Prop := ps.map (·.l) = bs ∧ ∀ p ∈ ps, OwnB w base p.A p.n p.c p.l
theorem Pts.up {w w' : World} {base : Nat} {ps : List Pt} {bs : List (List UInt8)} (h : Pts w base ps bs) (hu : Up w w') : Pts w' base ps bs := ⟨h.1, fun p hp => (h.2 p hp).up hu⟩

theorem intsT : SlT Try.prog 30 3 1 8 := SlT.mk' Try.underlying30 (z := .int .i64 0) (by kernel_rfl) rfl (by decide)
theorem rowsT : SlT Try.prog 104 43 1 24 := SlT.mk' Try.underlying104 (z := .slice none 0 0) (by kernel_rfl) rfl (by decide)
def OwnK (w : World) (base : Nat) (A : Option Addr) (n c : Nat) (l : List Nat) : Prop := w.ownsRow base 3 1 (.slice A n c) n (nvi l)
def OwnR (w : World) (base : Nat) (A : Option Addr) (n c : Nat) (ps : List Pt) : Prop := w.ownsRow base 43 1 (.slice A n c) n (ps.map Pt.v)
/-- what Split comes to -/
def SpPost (t : List Nat × List (List UInt8) × Nat × Nat) (w : World) (e : Ending) (w' : World) : Prop :=
  ∃ K kn kc R rn rc ps, e = .returned (.tuple #[.slice K kn kc, .slice R rn rc, .int .i64 (t.2.2.1 : Int), .int .i64 (t.2.2.2 : Int)]) ∧ OwnK w' w.heap.size K kn kc t.1 ∧ OwnR w' w.heap.size R rn rc ps ∧ Pts w' w.heap.size ps t.2.1 ∧ Up w w'

set_option maxRecDepth 100000 in
set_option maxHeartbeats 3200000 in
theorem split_any (A : Option Addr) (n c : Nat) (l : List UInt8) (w : World) (hr : Rd w w.heap.size 1 A n (bvs l)) (hn : n ≤ 549755813888) (hc : n ≤ c) :
    Calls Try.prog 59 #[.slice A n c] w (SpPost (splitL l) w) := by
  have HL := Lib.hid hr.blen
  go_enter Try.func59, Try.ntmps59
  go_wp2_with fail
  go_loopw [2, 3, 4] (fun kv rv i wr => ∃ (k : Nat) (K : Option Addr) (kn kc : Nat) (R : Option Addr) (rn rc : Nat) (ks : List Nat) (ps : List Pt) (bs : List (List UInt8)), i = .int .i64 (k : Int) ∧ kv = .slice K kn kc ∧ rv = .slice R rn rc ∧ k ≤ n ∧ kn ≤ k ∧ rn ≤ k ∧
      OwnK wr w.heap.size K kn kc ks ∧ OwnR wr w.heap.size R rn rc ps ∧ Pts wr w.heap.size ps bs ∧ Hid (∃ f, n - k < f ∧ splitG l f k ks bs = splitL l) ∧ Up w wr) (fun _ _ i _ => n - (intOf i).toNat)
  case atStart => exact ⟨0, none, 0, 0, none, 0, 0, [], [], [], rfl, rfl, rfl, by omega, by omega, by omega, World.ownsRow_nil _ _ _ _, World.ownsRow_nil _ _ _ _, ⟨rfl, fun p hp => by cases hp⟩, ⟨l.length + 1, by have := HL.out; omega, rfl⟩, Up.refl _⟩
  case round =>
    obtain ⟨k, K, kn, kc, R, rn, rc, ks, ps, bs, rfl, rfl, rfl, hk, hkn, hrn, hK, hR, hP, HF, hu⟩ := hrel
    by_cases hlt : k < n
    · go_wp2_with fail
      refine (ftake_core A n c l k wr (hr.up hu) hn hc hk).mono ?_
      rintro e w1 ⟨A1, n1, c1, rfl, ho1, hu1⟩
      have hu2 := hu.trans hu1
      have hsz := hu.size
      have ho2 := own_base ho1 hsz
      have hK1 : OwnK w1 w.heap.size K kn kc ks := own_up hK hu1
      have hR1 : OwnR w1 w.heap.size R rn rc ps := own_up hR hu1
      have hP1 := hP.up hu1
      clear ho1 hK hR hP
      by_cases he : (takeR (l.drop k)).1 = 0
      · have hok := takeR_ok he
        have hst : ∃ f, n - (k + (takeR (l.drop k)).2.2.2) < f ∧ splitG l f (k + (takeR (l.drop k)).2.2.2) (ks ++ [(takeR (l.drop k)).2.1]) (bs ++ [(takeR (l.drop k)).2.2.1]) = splitL l := by
          obtain ⟨f, hf, h⟩ := HF.out
          match f, hf, h with
          | f + 1, hf, h =>
            refine ⟨f, by omega, ?_⟩
            rw [← h]
            conv => rhs; unfold splitG
            rw [if_pos (by rw [← HL.out]; exact hlt), if_pos he]
        have HST := Lib.hid hst
        rw [if_pos he, he]
        have hdl : (l.drop k).length = n - k := by rw [List.length_drop, HL.out]
        rw [hdl] at hok
        clear hst he HF hdl
        generalize (takeR (l.drop k)).2.1 = tk at *
        generalize (takeR (l.drop k)).2.2.1 = tb at *
        generalize (takeR (l.drop k)).2.2.2 = tn at *
        obtain ⟨q1, q2, -, q4⟩ := hok
        have hcast : (k : Int) + (tn : Int) = ((k + tn : Nat) : Int) := by omega
        rw [hcast]
        clear hcast
        go_wp2_with (first
          | (at_builtin; refine wpList_append_rd _ intsT (news := nvi [tk]) (World.ownsRow.alloc hK1 _) (Rd.box _ _ _) (nvi_one _) (by omega) (by omega) (by simp; have := hu2.size; omega) rfl rfl rfl rfl ?_; intro v3 w3 hown3 hg3 hat3; obtain ⟨K3, kc3, rfl⟩ := own_form hown3)
          | (at_builtin; refine wpList_append_rd _ rowsT (news := [Value.slice A1 n1 c1]) (World.ownsRow.alloc (own_far (World.ownsRow.alloc hK1 _) (World.ownsRow.alloc hR1 _) (by decide) hg3) _) (Rd.box _ _ _) (by intro u hu; simp at hu; subst hu; rfl) (by omega) (by omega) (by simp; have := hu2.size; have := hg3.size; simp at this; omega) rfl rfl rfl rfl ?_; intro v4 w4 hown4 hg4 hat4; obtain ⟨R4, rc4, rfl⟩ := own_form hown4))
        have hu3 : Up w w3 := (hu2.alloc _).grown hg3 (fun g hg => (hK1.lt g hg).1)
        have hu4 : Up w w4 := (hu3.alloc _).grown hg4 (fun g hg => (hR1.lt g hg).1)
        have hR3 : OwnR w3 w.heap.size R rn rc ps := own_far (World.ownsRow.alloc hK1 _) (World.ownsRow.alloc hR1 _) (by decide) hg3
        have hK4 : OwnK w4 w.heap.size K3 (kn + 1) kc3 (ks ++ [tk]) := by
          show World.ownsRow _ _ _ _ _ _ _
          have e : nvi (ks ++ [tk]) = nvi ks ++ nvi [tk] := by simp [nvi]
          rw [e]
          exact own_far (World.ownsRow.alloc hR3 _) (World.ownsRow.alloc hown3 _) (by decide) hg4
        have hR4 : OwnR w4 w.heap.size R4 (rn + 1) rc4 (ps ++ [⟨A1, n1, c1, tb⟩]) := by
          show World.ownsRow _ _ _ _ _ _ _
          have e : (ps ++ [(⟨A1, n1, c1, tb⟩ : Pt)]).map Pt.v = ps.map Pt.v ++ [Value.slice A1 n1 c1] := by simp [Pt.v]
          rw [e]; exact hown4
        have keepB : ∀ (A : Option Addr) (n c : Nat) (l : List UInt8), OwnB w1 w.heap.size A n c l → OwnB w4 w.heap.size A n c l := fun A n c l h =>
          own_far (World.ownsRow.alloc hR3 _) (World.ownsRow.alloc (own_far (World.ownsRow.alloc hK1 _) (World.ownsRow.alloc h _) (by decide) hg3) _) (by decide) hg4
        have hP4 : Pts w4 w.heap.size (ps ++ [⟨A1, n1, c1, tb⟩]) (bs ++ [tb]) := by
          refine ⟨by rw [List.map_append, hP1.1]; rfl, fun p hp => ?_⟩
          rcases List.mem_append.1 hp with hp | hp
          · exact keepB _ _ _ _ (hP1.2 p hp)
          · simp only [List.mem_singleton] at hp
            subst hp
            exact keepB _ _ _ _ ho2
        clear hg3 hg4 hat3 hat4 hown3 hown4
        go_roundw
        case rel => exact ⟨k + tn, K3, kn + 1, kc3, R4, rn + 1, rc4, ks ++ [tk], ps ++ [⟨A1, n1, c1, tb⟩], bs ++ [tb], by go_num, rfl, rfl, by omega, by omega, by omega, hK4, hR4, hP4, HST.out, hu4⟩
        case measure => simp [intOf]; omega
      · have hst : splitL l = (ks, bs, k, (takeR (l.drop k)).1) := by
          obtain ⟨f, hf, h⟩ := HF.out
          match f, hf, h with
          | f + 1, hf, h =>
            rw [← h]
            conv => lhs; unfold splitG
            rw [if_pos (by rw [← HL.out]; exact hlt), if_neg he]
        have HST := Lib.hid hst
        rw [if_neg he]
        clear hst HF
        generalize (takeR (l.drop k)).1 = E at *
        generalize (takeR (l.drop k)).2.1 = tk at *
        have hE5 : ¬ (E : Int) = 0 := by omega
        go_wp2_with fail
        refine bodyPost_ret (v := .tuple #[.slice K kn kc, .slice R rn rc, .int .i64 (k : Int), .int .i64 (E : Int)]) (by simp [results, Try.results59, go_sem]) rfl ?_
        rw [HST.out]
        exact ⟨K, kn, kc, R, rn, rc, ps, rfl, hK1, hR1, hP1, hu2⟩
    · have hkn' : k = n := by omega
      subst hkn'
      have hst : splitL l = (ks, bs, k, 0) := by
        obtain ⟨f, hf, h⟩ := HF.out
        match f, hf, h with
        | f + 1, hf, h =>
          rw [← h]
          conv => lhs; unfold splitG
          rw [if_neg (by rw [← HL.out]; exact hlt)]
      have HST := Lib.hid hst
      clear hst HF
      go_wp2_with fail
      refine bodyPost_ret (v := .tuple #[.slice K kn kc, .slice R rn rc, .int .i64 (k : Int), .int .i64 0]) (by simp [results, Try.results59, go_sem]) rfl ?_
      rw [HST.out]
      exact ⟨K, kn, kc, R, rn, rc, ps, rfl, hK, hR, hP, hu⟩
end Go.Proofs.Ytokcaoaclheiiaa
