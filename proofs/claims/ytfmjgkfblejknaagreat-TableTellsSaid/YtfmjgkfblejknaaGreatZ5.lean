/-
  Texts of this claim, joined: BlkW6, BlkQ, Canon, TabP, TabW1, TabW2, TabR1, BlkCut3, TabW3, TabW4, TabW5, TabW6, TabP3.
-/
import Derived.Lib.MinMax
import Derived.IntWalk
import Derived.Lib.AppendZeros
import Derived.Test.YtfmjgkfblejknaaGreatZ4
/-
  The walks of law11's take (the document's answer of Take), of the document's Cut, of block.Find.
-/
namespace Go.Proofs.YtfmjgkfblejknaaGreat
open Go.RowKit
set_option linter.unusedVariables false
set_option linter.unusedSimpArgs false

theorem openE_ne1 (l : List UInt8) : openE l ≠ 1 := by
  unfold openE
  split
  · omega
  · split <;> omega
theorem takeR_ne1 (r : List UInt8) : (takeR r).1 ≠ 1 := by
  unfold takeR
  repeat' split
  all_goals first | exact openE_ne1 _ | exact (by decide : (4 : Nat) ≠ 1) | exact (by decide : (3 : Nat) ≠ 1) | exact (by decide : (0 : Nat) ≠ 1)
theorem takeF_one {l : List UInt8} {at_ : Int} : (takeF l at_).1 = 1 ↔ (at_ < 0 ∨ (l.length : Int) < at_) := by
  unfold takeF
  split
  · exact ⟨fun _ => by assumption, fun _ => rfl⟩
  · rename_i h
    exact ⟨fun h1 => absurd h1 (takeR_ne1 _), fun h1 => absurd h1 h⟩
/-- items in rows of q, k rows -/
def cutK (q : Nat) (l : List It) (k : Nat) : List (List It) := (List.range k).map fun j => (l.drop (j * q)).take q
theorem cutK_succ (q : Nat) (l : List It) (k : Nat) : cutK q l (k + 1) = cutK q l k ++ [(l.drop (k * q)).take q] := by simp [cutK, List.range_succ]
def cutL (q : Nat) (l : List It) : List (List It) := cutK q l (partsK q l.length)
def CutPost (q : Nat) (l : List It) (w : World) (e : Ending) (w' : World) : Prop :=
  ∃ (R : Option Addr) (m rc : Nat) (rs : List Rw), e = .returned (.slice R m rc) ∧ Rd w' w'.heap.size 1 R m (rwv rs) ∧ RwOk w' rs ∧ rwl rs = cutL q l ∧ Up w w'
theorem cut_to_i (W : World) (A : Option Addr) (n c i : Nat) (h1 : i ≤ c) :
    (Instr.slice 23 (.slice A n c) none (some (.int .i64 (i : Int))) none).run Tryz.prog W = .ok (.slice A i c) W := by
  rw [run_slice_h W 23 A n c (by rw [elem_i]; exact Tryz.underlying23) .i64 (i : Int) (by omega) (by omega), elem_i, sizeOf_i]
  have e4 : ∀ a : Addr, a.add 0 = a := fun a => by unfold Addr.add; simp
  simp [sliced, e4]
/-- how many rows a bound says -/
def mostQ (m : Int) : Nat := (min (max m 1) 100).toNat
theorem mostQ_bd (m : Int) : 1 ≤ mostQ m ∧ mostQ m ≤ 100 := by unfold mostQ; omega
theorem partsK_gt {q n k : Nat} (hq : 1 ≤ q) (h : k * q < n) : k + 1 ≤ partsK q n := by
  unfold partsK
  rw [Nat.le_div_iff_mul_le (by omega), Nat.succ_mul]
  omega
theorem partsK_end {q n k : Nat} (hq : 1 ≤ q) (h : n ≤ k * q) : partsK q n ≤ k := by
  unfold partsK
  refine Nat.le_of_lt_succ ((Nat.div_lt_iff_lt_mul (by omega)).2 ?_)
  rw [Nat.succ_mul]
  omega
theorem Rd.cuti {w : World} {B n c z : Nat} {A : Option Addr} {l : List It} (h : Rd w B 5 A n (itcs l)) (hz : z ≤ n) (hc : n ≤ c) : Rd w B 5 (cutA A c z 5) (n - z) (itcs (l.drop z)) := by
  have h1 := h.from_ hz hc
  rw [itcs_drop] at h1
  exact h1
theorem Rd.toi {w : World} {B n z : Nat} {A : Option Addr} {l : List It} (h : Rd w B 5 A n (itcs l)) (hz : z ≤ n) : Rd w B 5 A z (itcs (l.take z)) := by
  have h1 := h.to_ hz
  rw [itcs_take] at h1
  exact h1
set_option maxRecDepth 100000 in
set_option maxHeartbeats 1600000 in
theorem rcut_any (A : Option Addr) (n c : Nat) (m : Int) (l : List It) (w : World) (hr : Rd w w.heap.size 5 A n (itcs l)) (hnc : n ≤ c) (hn : n ≤ 1000000) (h1 : -9223372036854775808 ≤ m) (h2 : m ≤ 9223372036854775807) :
    Calls Tryz.prog 22 #[.slice A n c, .int .i64 m] w (CutPost (mostQ m) l w) := by
  have hl := hr.ilen
  have hq := mostQ_bd m
  obtain ⟨q, hqm⟩ : ∃ q, q = mostQ m := ⟨_, rfl⟩
  rw [← hqm] at hq ⊢
  obtain ⟨hq1, hq2⟩ := hq
  have hmn : min (max m 1) 100 = (q : Int) := by rw [hqm]; unfold mostQ; omega
  have HL := Lib.hid hl
  clear hl hqm
  have nil0 : ∀ w0, World.ownsRow w0 w.heap.size 23 1 (.slice none 0 0) 0 (rwv []) := fun w0 => World.ownsRow_nil _ _ _ _
  have NIL := Lib.hid nil0
  clear nil0
  go_enter Tryz.func22, Tryz.ntmps22
  go_wp2_with fail
  clear hmn
  go_loopw [0, 5] (fun lv ov wr => ∃ (k : Nat) (A1 : Option Addr) (n1 c1 : Nat) (R : Option Addr) (rc : Nat) (rs : List Rw), lv = .slice A1 n1 c1 ∧ ov = .slice R k rc ∧ n1 ≤ c1 ∧ k + n1 ≤ n ∧ n1 ≤ n - k * q ∧ n - k * q ≤ n1 ∧ Hid (k ≤ partsK q n) ∧ Rd w w.heap.size 5 A1 n1 (itcs (l.drop (k * q))) ∧ wr.ownsRow w.heap.size 23 1 (.slice R k rc) k (rwv rs) ∧ RwOk w rs ∧ Hid (rwl rs = cutK q l k) ∧ Up w wr) (fun lv _ _ => match lv with | .slice _ n1 _ => n1 | _ => 0)
  case atStart =>
    exact ⟨0, A, n, c, none, 0, [], rfl, rfl, hnc, by omega, by omega, by omega, Nat.zero_le _, by rw [Nat.zero_mul, List.drop_zero]; exact hr, NIL.out _, RwOk.nil _, rfl, Up.refl _⟩
  case round =>
    obtain ⟨k, A1, n1, c1, R, rc, rs, rfl, rfl, hc1, hkn, hn1, hn2, hkp, hrd, hown, hok, hcut, hu⟩ := hrel
    by_cases h0 : 0 < n1
    · have h0i : (0 : Int) < (n1 : Int) := by omega
      obtain ⟨z, hz⟩ : ∃ z, z = min q n1 := ⟨_, rfl⟩
      have hmn : min (q : Int) (n1 : Int) = (z : Int) := by omega
      have hz1 : 1 ≤ z := by omega
      have hz2 : z ≤ n1 := by omega
      have CT := fun W => cut_to_i W A1 n1 c1 z (by omega)
      have CF := fun W => cut_from_i W A1 n1 c1 z (by omega)
      have HZ := Lib.hid hz
      clear hz
      go_wp2_with (at_builtin; refine wpList_append_rd _ rowsT (news := [.slice A1 z c1]) (hown.alloc _) (Rd.blk1 (heap_alloc_new wr _)) (by simp [Value.oneCell']) (by omega) (by omega) (by simp; have := hu.size; omega) rfl rfl rfl rfl ?_; intro v5 w5 hown5 hg5 hat5)
      obtain ⟨V5, vc5, rfl⟩ := own_form hown5
      have hu6 : Up w w5 := (hu.alloc _).grown hg5 (fun g hg => (hown.lt g hg).1)
      go_roundw
      case rel =>
        refine ⟨k + 1, cutA A1 c1 z 5, n1 - z, c1 - z, V5, vc5, rs ++ [⟨A1, z, c1, (l.drop (k * q)).take q⟩], rfl, rfl, by omega, by omega, ?_, ?_, ?_, ?_, ?_, ?_, ?_, hu6⟩
        · rw [Nat.succ_mul]; omega
        · rw [Nat.succ_mul]; omega
        · exact partsK_gt hq1 (by omega)
        · have h := hrd.cuti hz2 hc1
          rw [List.drop_drop] at h
          have hll := HL.out
          have e : l.drop (k * q + z) = l.drop ((k + 1) * q) := by
            rw [Nat.succ_mul]
            have hzz := HZ.out
            rcases (by omega : z = q ∨ (z = n1 ∧ n1 ≤ q)) with h1 | ⟨h1, h2⟩
            · rw [h1]
            · rw [List.drop_eq_nil_of_le (by omega), List.drop_eq_nil_of_le (by omega)]
          rw [e] at h
          exact h
        · have e : rwv (rs ++ [⟨A1, z, c1, (l.drop (k * q)).take q⟩]) = rwv rs ++ [.slice A1 z c1] := by simp [rwv, Rw.v]
          rw [e]; exact hown5
        · have h := hrd.toi hz2
          have e : (l.drop (k * q)).take z = (l.drop (k * q)).take q := by
            have hzz := HZ.out
            have hll := HL.out
            rcases (by omega : z = q ∨ (z = n1 ∧ n1 ≤ q)) with h1 | ⟨h1, h2⟩
            · rw [h1]
            · rw [List.take_of_length_le (by rw [List.length_drop]; omega), List.take_of_length_le (by rw [List.length_drop]; omega)]
          rw [e] at h
          exact hok.snoc h (by omega)
        · show _ = _
          rw [cutK_succ, ← hcut.out]
          simp [rwl]
      case measure => show n1 - z < n1; omega
    · go_wp2_with fail
      go_ret
      have hkn' : k = partsK q n := Nat.le_antisymm hkp.out (partsK_end hq1 (by omega))
      refine ⟨R, k, rc, rs, rfl, Rd.own hown, hok.up hu, ?_, hu⟩
      unfold cutL
      rw [hcut.out, ← HL.out, hkn']
end Go.Proofs.YtfmjgkfblejknaaGreat

/-
  What the laws of blocks begin with: the Ok items of a list, each a row, merged.
-/
namespace Go.Proofs.YtfmjgkfblejknaaGreat
open Go.RowKit
set_option linter.unusedVariables false
set_option linter.unusedSimpArgs false

/-- the Ok items of a list, merged -/
def qL (l : List It) : List It := rowsL (l.filter okB)
theorem qL_len (l : List It) : (qL l).length ≤ l.length := by
  have h := (rowsL_all (l.filter okB) [] trivial (fun y hy => by cases hy) (fun y hy => (List.mem_filter.1 hy).2)).2.2
  have h2 := List.length_filter_le okB l
  rw [List.length_nil, Nat.zero_add] at h
  exact Nat.le_trans h h2
theorem qL_rise (l : List It) : riseR (qL l) := (rowsL_all (l.filter okB) [] trivial (fun y hy => by cases hy) (fun y hy => (List.mem_filter.1 hy).2)).1
theorem Rd.zero {w : World} {B : Nat} {A A' : Option Addr} {sz : Nat} {xs : List Value} (h : Rd w B sz A 0 xs) : Rd w B sz A' 0 xs := ⟨h.1, fun h0 => absurd h0 (by omega)⟩
theorem frame_one {q : List It} (h : bErr q = 0) : takeB (frameB 2 (itemsB q)) 0 = (0, q, (((frameB 2 (itemsB q)).length : Nat) : Int)) := by
  have h9 := takeB_frame [] [] h
  rw [List.append_nil, List.nil_append] at h9
  have hl := frameB_len 2 (itemsB q)
  rw [show (([] : List UInt8).length : Int) = 0 from rfl] at h9
  rw [h9, hl]
  simp
theorem takeB_bad {c : List UInt8} {at_ : Int} (h0 : 0 ≤ at_) (h1 : at_ ≤ (c.length : Int)) (h : (takeF c at_).1 ≠ 0) : takeB c at_ = (9, [], 0) := by
  have h2 : (takeF c at_).1 ≠ 1 := fun e => by have := takeF_one.1 e; omega
  unfold takeB
  simp only []
  rw [if_neg h2, if_pos (.inl h)]
theorem blk_flips {q : List It} (h : bErr q = 0) {ps : List Nat} (h3 : ps.length ≤ 3) (hb : ∀ p ∈ ps, p < 8 * (frameB 2 (itemsB q)).length) :
    (flipsB (frameB 2 (itemsB q)) ps = frameB 2 (itemsB q) ∧ takeB (flipsB (frameB 2 (itemsB q)) ps) 0 = (0, q, (((frameB 2 (itemsB q)).length : Nat) : Int))) ∨
    (flipsB (frameB 2 (itemsB q)) ps ≠ frameB 2 (itemsB q) ∧ takeB (flipsB (frameB 2 (itemsB q)) ps) 0 = (9, [], 0)) := by
  have hl := itemsB_blk q (bErr_ok h).1
  by_cases he : flipsB (frameB 2 (itemsB q)) ps = frameB 2 (itemsB q)
  · left
    refine ⟨he, ?_⟩
    rw [he]
    exact frame_one h
  · right
    refine ⟨he, ?_⟩
    have h1 := (frame_flips 2 (itemsB q) [] (by omega) h3 hb).resolve_left he
    rw [List.append_nil] at h1
    have hlen := flipsB_len ps (frameB 2 (itemsB q))
    generalize flipsB (frameB 2 (itemsB q)) ps = c at *
    refine takeB_bad (by omega) (by omega) ?_
    unfold takeF
    rw [if_neg (by omega)]
    exact h1
end Go.Proofs.YtfmjgkfblejknaaGreat

/-
  What is read is written just so: numbers, items, frames, blocks. Plain laws.
-/
namespace Go.Proofs.YtfmjgkfblejknaaGreat
open Go.RowKit
set_option linter.unusedVariables false
set_option linter.unusedSimpArgs false

theorem takeGo_canon : ∀ (l : List UInt8) (i acc : Nat), (takeGo l i acc).2.2 = 0 → ∃ x, (takeGo l i acc).1 = acc + x * 128 ^ i ∧ i ≤ (takeGo l i acc).2.1 ∧ l.take ((takeGo l i acc).2.1 - i) = numB x ∧ (0 < i → 0 < x)
  | [], i, acc, h => by simp [takeGo] at h
  | c :: r, i, acc, h => by
    by_cases hf : (i = 9 ∧ 1 < c.toNat) ∨ (0 < i ∧ c.toNat = 0)
    · rw [takeGo_form hf] at h; simp at h
    · by_cases h2 : c.toNat < 128
      · rw [takeGo_end hf h2]
        refine ⟨c.toNat, by simp only []; rw [Nat.mod_eq_of_lt h2], by simp, ?_, by omega⟩
        rw [numB_lo h2]
        simp only []
        rw [show i + 1 - i = 1 by omega]
        simp
      · rw [takeGo_more hf h2] at h ⊢
        obtain ⟨x, h1, h3, h4, h5⟩ := takeGo_canon r (i + 1) _ h
        have hx := h5 (by omega)
        have hc := c.toNat_lt
        refine ⟨c.toNat % 128 + 128 * x, ?_, Nat.le_of_succ_le h3, ?_, fun _ => by omega⟩
        · rw [h1, Nat.pow_succ, Nat.add_mul, Nat.add_assoc, Nat.mul_comm (128 ^ i) 128, ← Nat.mul_assoc, Nat.mul_comm x 128]
        · generalize (takeGo r (i + 1) (acc + c.toNat % 128 * 128 ^ i)).2.1 = k at *
          rw [show k - i = (k - (i + 1)) + 1 by omega, List.take_succ_cons, h4, numB_hi (n := c.toNat % 128 + 128 * x) (by omega)]
          have e1 : (c.toNat % 128 + 128 * x) % 128 = c.toNat % 128 := by omega
          have e2 : (c.toNat % 128 + 128 * x) / 128 = x := by omega
          rw [e1, e2, show c.toNat % 128 + 128 = c.toNat by omega]
          simp
theorem takeL_canon {l : List UInt8} (h : (takeL l).2.2 = 0) : l = numB (takeL l).1 ++ l.drop (takeL l).2.1 := by
  obtain ⟨x, h1, h2, h3, h4⟩ := takeGo_canon l 0 0 h
  have e1 : (takeL l).1 = x := by
    have : (takeGo l 0 0).1 = 0 + x * 128 ^ 0 := h1
    unfold takeL; rw [this]; simp
  have e2 : l.take (takeL l).2.1 = numB x := h3
  rw [e1, ← e2, List.take_append_drop]
theorem takesL_canon : ∀ (k : Nat) (acc : List Nat) (l : List UInt8), (takesL k acc l).1 = 0 → ∃ xs : List Nat, xs.length = k ∧ (∀ x ∈ xs, x < 18446744073709551616) ∧ (takesL k acc l).2.1 = acc ++ xs ∧ l = xs.flatMap numB ++ (takesL k acc l).2.2
  | 0, acc, l, _ => ⟨[], rfl, (fun x hx => by cases hx), by simp [takesL], by simp [takesL]⟩
  | k + 1, acc, l, h => by
    unfold takesL at h ⊢
    by_cases h1 : (takeL l).2.2 = 0
    · rw [if_pos h1] at h ⊢
      obtain ⟨xs, a, b, c, d⟩ := takesL_canon k _ _ h
      refine ⟨(takeL l).1 :: xs, by simp [a], ?_, by rw [c]; simp, ?_⟩
      · intro x hx
        rcases List.mem_cons.1 hx with e | hx
        · rw [e]; exact (takeL_ok h1).1
        · exact b x hx
      · rw [List.flatMap_cons, List.append_assoc, ← d]
        exact takeL_canon h1
    · rw [if_neg h1] at h
      exact absurd h h1
theorem oneL_canon {l : List UInt8} (h : (oneL l).1 = 0) : l = itB (oneL l).2.1 ++ (oneL l).2.2 := by
  unfold oneL at h ⊢
  by_cases h2 : l.length < 2
  · rw [if_pos h2] at h; cases h
  · rw [if_neg h2] at h ⊢
    by_cases h3 : (takesL 3 [] (l.drop 2)).1 = 0
    · rw [if_pos h3]
      obtain ⟨xs, a, b, c, d⟩ := takesL_canon 3 [] (l.drop 2) h3
      rw [List.nil_append] at c
      match xs, a with
      | [t, v, x], _ =>
        simp only [c]
        match l, h2 with
        | b0 :: b1 :: r, _ =>
          have ht := b t (by simp)
          have hv := b v (by simp)
          have hx := b x (by simp)
          have hb0 := b0.toNat_lt
          have hb1 := b1.toNat_lt
          have e1 : ∀ n : Nat, n < 256 → (Int64.ofInt (n : Int)).toInt = (n : Int) := fun n hn => by rw [Int64.toInt_ofInt_of_le (by omega) (by simp; omega)]
          have hub : -9223372036854775808 ≤ unsignZ x ∧ unsignZ x ≤ 9223372036854775807 := by unfold unsignZ; split <;> omega
          have ex : (Int64.ofInt (unsignZ x)).toInt = unsignZ x := by rw [Int64.toInt_ofInt_of_le (by simpa using hub.1) (by have := hub.2; simp; omega)]
          have eb : ∀ q : UInt8, byteOf (q.toNat : Int) = q := fun q => by
            have hq := q.toNat_lt
            unfold byteOf
            rw [show ((q.toNat : Int) % 256).toNat = q.toNat by omega]
            simp
          simp only [List.drop_succ_cons, List.drop_zero, List.getD_cons_zero, List.getD_cons_succ] at d ⊢
          simp only [itB, mkIt, e1 _ hb0, e1 _ hb1, eb, ex, sign_unsign]
          have et : (UInt64.ofNat t).toNat = t := by simp; omega
          have ev : (UInt64.ofNat v).toNat = v := by simp; omega
          rw [et, ev]
          simp only [List.cons_append, List.cons.injEq, true_and]
          conv => lhs; rw [d]
          simp
        | [_], h2 => exact absurd (by simp) h2
        | [], h2 => exact absurd (by simp) h2
    · rw [if_neg h3] at h
      exact absurd h h3
theorem itsL_canon : ∀ (k : Nat) (acc : List It) (l : List UInt8), (itsL k acc l).1 = 0 → ∃ q : List It, q.length = k ∧ (itsL k acc l).2.1 = acc ++ q ∧ l = q.flatMap itB ++ (itsL k acc l).2.2
  | 0, acc, l, _ => ⟨[], rfl, by simp [itsL], by simp [itsL]⟩
  | k + 1, acc, l, h => by
    unfold itsL at h ⊢
    by_cases h1 : (oneL l).1 = 0
    · rw [if_pos h1] at h ⊢
      obtain ⟨q, a, b, c⟩ := itsL_canon k _ _ h
      refine ⟨(oneL l).2.1 :: q, by simp [a], by rw [b]; simp, ?_⟩
      rw [List.flatMap_cons, List.append_assoc, ← c]
      exact oneL_canon h1
    · rw [if_neg h1] at h
      exact absurd h h1
/-- items that are read are written just so -/
theorem readL_canon {l : List UInt8} (h : (readL l).1 = 0) : l = itemsB (readL l).2 ∧ bytesE (readL l).2 = 0 := by
  unfold readL at h ⊢
  by_cases h1 : (takeL l).2.2 ≠ 0
  · rw [if_pos h1] at h; exact absurd h h1
  · rw [if_neg h1] at h ⊢
    by_cases h2 : 2000 < (takeL l).1
    · rw [if_pos h2] at h; cases h
    · rw [if_neg h2] at h ⊢
      by_cases h3 : (itsL (takeL l).1 [] (l.drop (takeL l).2.1)).1 ≠ 0
      · rw [if_pos h3] at h; exact absurd h h3
      · rw [if_neg h3] at h ⊢
        by_cases h4 : (itsL (takeL l).1 [] (l.drop (takeL l).2.1)).2.2.length = 0 ∧ (itsL (takeL l).1 [] (l.drop (takeL l).2.1)).2.1.all okB = true
        · rw [if_pos h4]
          obtain ⟨q, a, b, c⟩ := itsL_canon _ [] _ (Decidable.not_not.1 h3)
          rw [List.nil_append] at b
          have ht := takeL_canon (Decidable.not_not.1 h1)
          rw [List.eq_nil_of_length_eq_zero h4.1, List.append_nil] at c
          simp only []
          refine ⟨?_, ?_⟩
          · unfold itemsB
            rw [b, a, ← c]
            exact ht
          · unfold bytesE
            rw [b, a, if_neg h2, ← b, h4.2]; rfl
        · rw [if_neg h4] at h; cases h
theorem openE_ok {l : List UInt8} (h : openE l = 0) : sealB (l.take (l.length - 4)) = l ∧ 4 ≤ l.length := by
  unfold openE at h
  split at h
  · cases h
  · split at h
    · exact ⟨by assumption, by omega⟩
    · cases h
theorem head_back {r : List UInt8} (h : 4 ≤ r.length) : headB ((r.getD 0 0).toNat : Int) (headN r) = r.take 4 := by
  obtain ⟨b0, b1, b2, b3, t, rfl⟩ : ∃ b0 b1 b2 b3 t, r = b0 :: b1 :: b2 :: b3 :: t := by
    rcases r with _ | ⟨b0, _ | ⟨b1, _ | ⟨b2, _ | ⟨b3, t⟩⟩⟩⟩
    · simp at h
    · simp at h
    · simp at h
    · simp at h
    · exact ⟨_, _, _, _, _, rfl⟩
  clear h
  have q0 := b0.toNat_lt
  have q1 := b1.toNat_lt
  have q2 := b2.toNat_lt
  have q3 := b3.toNat_lt
  simp only [headB, headN, List.getD_cons_zero, List.getD_cons_succ, List.take_succ_cons, List.take_zero]
  have e0 : byteOf (b0.toNat : Int) = b0 := by
    unfold byteOf
    rw [show ((b0.toNat : Int) % 256).toNat = b0.toNat by omega]
    simp
  have e1 : UInt8.ofNat ((b1.toNat * 65536 + b2.toNat * 256 + b3.toNat) / 65536) = b1 := by
    rw [show (b1.toNat * 65536 + b2.toNat * 256 + b3.toNat) / 65536 = b1.toNat by omega]; simp
  have e2 : UInt8.ofNat ((b1.toNat * 65536 + b2.toNat * 256 + b3.toNat) / 256) = b2 := by
    apply UInt8.toNat_inj.1
    rw [UInt8.toNat_ofNat']
    omega
  have e3 : UInt8.ofNat (b1.toNat * 65536 + b2.toNat * 256 + b3.toNat) = b3 := by
    apply UInt8.toNat_inj.1
    rw [UInt8.toNat_ofNat']
    omega
  rw [e0, e1, e2, e3]
/-- a frame that is taken is written just so -/
theorem takeR_canon {r : List UInt8} (h : (takeR r).1 = 0) : ∃ (k : Nat) (body : List UInt8), takeR r = (0, k, body, body.length + 12) ∧ 1 ≤ k ∧ k ≤ 100 ∧ body.length ≤ 60000 ∧ body.length + 12 ≤ r.length ∧ r = frameB (k : Int) body ++ r.drop (body.length + 12) := by
  unfold takeR at h ⊢
  by_cases h1 : r.length < 8
  · rw [if_pos h1] at h; cases h
  · rw [if_neg h1] at h ⊢
    by_cases h2 : openE (r.take 8) ≠ 0
    · rw [if_pos h2] at h; exact absurd h h2
    · rw [if_neg h2] at h ⊢
      by_cases h3 : (r.getD 0 0).toNat < 1 ∨ 100 < (r.getD 0 0).toNat ∨ 60000 < headN r
      · rw [if_pos h3] at h; cases h
      · rw [if_neg h3] at h ⊢
        by_cases h4 : r.length - 8 < headN r + 4
        · rw [if_pos h4] at h; cases h
        · rw [if_neg h4] at h ⊢
          by_cases h5 : openE ((r.drop 8).take (headN r + 4)) ≠ 0
          · rw [if_pos h5] at h; exact absurd h h5
          · rw [if_neg h5]
            obtain ⟨s1, -⟩ := openE_ok (Decidable.not_not.1 h2)
            obtain ⟨s2, -⟩ := openE_ok (Decidable.not_not.1 h5)
            have hl : ((r.drop 8).take (headN r)).length = headN r := by rw [List.length_take, List.length_drop]; omega
            have hl2 : ((r.drop 8).take (headN r + 4)).length = headN r + 4 := by rw [List.length_take, List.length_drop]; omega
            have hl3 : (r.take 8).length = 8 := by rw [List.length_take]; omega
            rw [hl3] at s1
            rw [hl2, show headN r + 4 - 4 = headN r by omega, List.take_take, Nat.min_eq_left (by omega)] at s2
            rw [List.take_take, show min (8 - 4) 8 = 4 by omega] at s1
            refine ⟨(r.getD 0 0).toNat, (r.drop 8).take (headN r), by rw [hl], by omega, by omega, by rw [hl]; omega, by rw [hl]; omega, ?_⟩
            rw [hl]
            have hh : headB ((r.getD 0 0).toNat : Int) (headN r) = r.take 4 := by
              exact head_back (by omega)
            unfold frameB
            rw [hl, hh, s1, s2, List.append_assoc]
            have e : (r.drop 8).take (headN r + 4) ++ r.drop (headN r + 12) = r.drop 8 := by
              rw [show headN r + 12 = 8 + (headN r + 4) by omega, ← List.drop_drop, List.take_append_drop]
            rw [e, List.take_append_drop]
theorem takeF_canon {l : List UInt8} {at_ : Int} (h : (takeF l at_).1 = 0) : ∃ (k : Nat) (body : List UInt8) (p : Nat), at_ = (p : Int) ∧ p + (body.length + 12) ≤ l.length ∧ takeF l at_ = (0, k, body, ((p + (body.length + 12) : Nat) : Int)) ∧ 1 ≤ k ∧ k ≤ 100 ∧ body.length ≤ 60000 ∧ l = l.take p ++ (frameB (k : Int) body ++ l.drop (p + (body.length + 12))) := by
  unfold takeF at h ⊢
  by_cases h0 : at_ < 0 ∨ (l.length : Int) < at_
  · rw [if_pos h0] at h; cases h
  · rw [if_neg h0] at h ⊢
    obtain ⟨k, body, h1, h2, h3, h4, h5, h6⟩ := takeR_canon h
    rw [List.length_drop] at h5
    refine ⟨k, body, at_.toNat, by omega, by omega, ?_, h2, h3, h4, ?_⟩
    · simp only [h1, if_true]
      rw [show at_ + ((body.length + 12 : Nat) : Int) = ((at_.toNat + (body.length + 12) : Nat) : Int) by omega]
    · rw [← List.drop_drop, ← h6, List.take_append_drop]
/-- a block that is taken is written just so -/
theorem takeB_canon {l : List UInt8} {at_ : Int} {q : List It} {n : Int} (h : takeB l at_ = (0, q, n)) : ∃ p m : Nat, at_ = (p : Int) ∧ n = (m : Int) ∧ p < m ∧ m ≤ l.length ∧ bErr q = 0 ∧ (l.drop p).take (m - p) = frameB 2 (itemsB q) := by
  unfold takeB at h
  simp only [] at h
  split at h
  · cases h
  · split at h
    · cases h
    · split at h
      · cases h
      · rename_i h1 h2 h3
        have hE : (takeF l at_).1 = 0 := Decidable.not_not.1 fun h' => h2 (.inl h')
        have hK : (takeF l at_).2.1 = 2 := Decidable.not_not.1 fun h' => h2 (.inr h')
        have hR : (readL (takeF l at_).2.2.1).1 = 0 := Decidable.not_not.1 fun h' => h3 (.inl h')
        have hB : bErr (readL (takeF l at_).2.2.1).2 = 0 := Decidable.not_not.1 fun h' => h3 (.inr h')
        obtain ⟨k, body, p, a, b, c, d1, d2, d3, e⟩ := takeF_canon hE
        rw [c] at h hK hR hB
        simp only [] at h hK hR hB
        obtain ⟨r1, r2⟩ := readL_canon hR
        have hq : (readL body).2 = q := by injection h with _ h; injection h
        have hn : ((p + (body.length + 12) : Nat) : Int) = n := by injection h with _ h; injection h
        rw [hq] at r1 hB
        subst hK
        refine ⟨p, p + (body.length + 12), a, hn.symm, by omega, b, hB, ?_⟩
        have hfl := frameB_len ((2 : Nat) : Int) body
        rw [show p + (body.length + 12) - p = body.length + 12 by omega, ← r1]
        conv => lhs; rw [e]
        rw [List.drop_append_of_le_length (by rw [List.length_take]; omega), List.drop_eq_nil_of_le (by rw [List.length_take]; omega), List.nil_append, List.take_append_of_le_length (by rw [hfl]; omega), List.take_of_length_le (by rw [hfl]; omega)]
        rfl
theorem takeB_no {l : List UInt8} {at_ : Int} {E : Nat} {q : List It} {n : Int} (h : takeB l at_ = (E, q, n)) (hE : E ≠ 0) : q = [] ∧ n = 0 ∧ (E = 9 ∨ E = 1 ∧ (at_ < 0 ∨ (l.length : Int) < at_)) := by
  unfold takeB at h
  simp only [] at h
  split at h
  · rename_i h1
    injection h with h2 h3
    injection h3 with h3 h4
    exact ⟨h3.symm, h4.symm, .inr ⟨h2.symm, takeF_one.1 h1⟩⟩
  · split at h
    · injection h with h2 h3
      injection h3 with h3 h4
      exact ⟨h3.symm, h4.symm, .inl h2.symm⟩
    · split at h
      · injection h with h2 h3
        injection h3 with h3 h4
        exact ⟨h3.symm, h4.symm, .inl h2.symm⟩
      · injection h with h2 h3
        exact absurd h2.symm hE
theorem xor_byteX (x y : Int) : ∃ z : UInt8, bits .xor .u8 x y = (z.toNat : Int) := by
  have h : ∃ q : Int, bits .xor .u8 x y = IntKind.u8.wrap q := ⟨_, rfl⟩
  obtain ⟨q, hq⟩ := h
  refine ⟨UInt8.ofNat (q % 256).toNat, ?_⟩
  rw [hq, IntKind.wrap_u8]
  have h0 : 0 ≤ q % 256 := by omega
  have h1 : q % 256 < 256 := by omega
  simp
  omega
theorem keepsUpX {w wq w2 : World} {gx : Nat} (hu : Up w wq) (hg : w.heap.size ≤ gx) (hK : Rg.Keeps (fun g => g = gx) wq w2) : Up w w2 :=
  ⟨hK.os.trans hu.os, hK.tape.trans hu.tape, hK.output.trans hu.output, Nat.le_trans hu.size hK.size, fun k hk => (hK.block k (Nat.lt_of_lt_of_le hk hu.size) (by show ¬ k = gx; omega)).trans (hu.block k hk)⟩
end Go.Proofs.YtfmjgkfblejknaaGreat

/-
  Tables, plain: the filter's bits, the bytes of a table, what is read of bytes; what is read is what was made.
-/
namespace Go.Proofs.YtfmjgkfblejknaaGreat
open Go.RowKit
set_option linter.unusedVariables false
set_option linter.unusedSimpArgs false

/-! rising rows, cut -/
theorem riseR_drop : ∀ {l : List It} (k : Nat), riseR l → riseR (l.drop k)
  | [], k, _ => by rw [List.drop_nil]; trivial
  | a :: r, 0, h => h
  | a :: r, k + 1, h => riseR_drop k (riseR_tail h)
theorem riseR_take : ∀ {l : List It} (k : Nat), riseR l → riseR (l.take k)
  | [], k, _ => by rw [List.take_nil]; trivial
  | a :: r, 0, h => trivial
  | a :: r, k + 1, h => by
    rw [List.take_succ_cons]
    refine riseR_cons (riseR_take k (riseR_tail h)) fun z t e => ?_
    cases r with
    | nil => rw [List.take_nil] at e; cases e
    | cons b r =>
      cases k with
      | zero => cases e
      | succ k =>
        rw [List.take_succ_cons] at e
        injection e with e1 e2
        rw [← e1]; exact h.1
theorem qL_ok (l : List It) : ∀ y ∈ qL l, okB y = true := (rowsL_all (l.filter okB) [] trivial (fun y hy => by cases hy) (fun y hy => (List.mem_filter.1 hy).2)).2.1
/-- a row that rises, by its test -/
theorem riseR_of : ∀ {l : List It}, risesB l = true → riseR l
  | [], _ => trivial
  | a :: r, h => by
    have h1 := List.all_eq_true.1 h
    refine riseR_cons (riseR_of ?_) fun z t e => ?_
    · refine risesB_yes fun j hj => ?_
      have h2 := h1 (j + 1) (List.mem_range.2 (by rw [List.length_cons]; omega))
      simpa using h2
    · subst e
      have h2 := h1 0 (List.mem_range.2 (by simp))
      simpa using h2
theorem blk_ok {z : List It} (h0 : 0 < z.length) (h1 : z.length ≤ 100) (hr : riseR z) (ho : ∀ y ∈ z, okB y = true) : bErr z = 0 := by
  unfold bErr
  rw [if_neg (by omega)]
  unfold mayL
  rw [decide_eq_true h0, risesB_yes (riseR_yes hr), List.all_eq_true.2 ho]; rfl
theorem cutL_len (q : Nat) (l : List It) : (cutL q l).length = partsK q l.length := by simp [cutL, cutK]
theorem cutL_at {q k : Nat} {l : List It} (h : k < (cutL q l).length) : (cutL q l)[k] = (l.drop (k * q)).take q := by simp [cutL, cutK]
theorem cutL_row {q : Nat} {l z : List It} (hq1 : 1 ≤ q) (h : z ∈ cutL q l) : ∃ j, j * q < l.length ∧ z = (l.drop (j * q)).take q := by
  unfold cutL cutK at h
  obtain ⟨j, hj, rfl⟩ := List.mem_map.1 h
  exact ⟨j, partsK_lt hq1 (List.mem_range.1 hj), rfl⟩
theorem cut_may {q : Nat} {l z : List It} (hq1 : 1 ≤ q) (hq2 : q ≤ 100) (hr : riseR l) (ho : ∀ y ∈ l, okB y = true) (h : z ∈ cutL q l) : bErr z = 0 := by
  obtain ⟨j, hj, rfl⟩ := cutL_row hq1 h
  refine blk_ok ?_ ?_ (riseR_take _ (riseR_drop _ hr)) (fun y hy => ho y (List.mem_of_mem_drop (List.mem_of_mem_take hy)))
  · rw [List.length_take, List.length_drop]; omega
  · rw [List.length_take]; omega
theorem cutK_flat (q : Nat) (l : List It) : ∀ k, (cutK q l k).flatten = l.take (k * q)
  | 0 => by simp [cutK]
  | k + 1 => by
    rw [cutK_succ, List.flatten_append, cutK_flat q l k, List.flatten_singleton, Nat.succ_mul, List.take_add]
theorem cutL_flat {q : Nat} (hq : 1 ≤ q) (l : List It) : (cutL q l).flatten = l := by
  unfold cutL
  rw [cutK_flat]
  exact List.take_of_length_le (partsK_le hq)

/-! blocks one behind the other -/
def blksB (L : List (List It)) : List UInt8 := L.flatMap fun z => frameB 2 (itemsB z)
theorem blksB_append (L M : List (List It)) : blksB (L ++ M) = blksB L ++ blksB M := by simp [blksB]
theorem blksB_snoc (L : List (List It)) (k : Nat) (h : k < L.length) : blksB (L.take (k + 1)) = blksB (L.take k) ++ frameB 2 (itemsB L[k]) := by
  rw [List.take_succ_eq_append_getElem h]
  unfold blksB
  rw [List.flatMap_append]
  simp
theorem blksB_split (L : List (List It)) (k : Nat) (h : k < L.length) : blksB L = blksB (L.take k) ++ (frameB 2 (itemsB L[k]) ++ blksB (L.drop (k + 1))) := by
  have e : L = L.take k ++ L[k] :: L.drop (k + 1) := by rw [← List.drop_eq_getElem_cons h, List.take_append_drop]
  conv => lhs; rw [e]
  unfold blksB
  rw [List.flatMap_append, List.flatMap_cons]
theorem blksB_len (L : List (List It)) (h : ∀ z ∈ L, z.length ≤ 100) : (blksB L).length ≤ 3222 * L.length := by
  induction L with
  | nil => simp [blksB]
  | cons z L ih =>
    have h1 := ih fun y hy => h y (List.mem_cons_of_mem _ hy)
    have h2 := itemsB_blk z (h z List.mem_cons_self)
    have h3 : blksB (z :: L) = frameB 2 (itemsB z) ++ blksB L := by simp [blksB]
    rw [h3, List.length_append, frameB_len, List.length_cons]; omega

/-! the index -/
def idxK (L : List (List It)) (k : Nat) : List UInt8 := (List.range k).flatMap fun j => numB (blksB (L.take j)).length ++ itemsB ((L.getD j []).take 1)
theorem idxK_succ (L : List (List It)) (k : Nat) : idxK L (k + 1) = idxK L k ++ (numB (blksB (L.take k)).length ++ itemsB ((L.getD k []).take 1)) := by simp [idxK, List.range_succ]
theorem idxK_zero (L : List (List It)) : idxK L 0 = [] := rfl
theorem idxK_len (L : List (List It)) (h : (blksB L).length < 18446744073709551616) (hz : ∀ z ∈ L, z.length ≤ 100) : ∀ k, k ≤ L.length → (idxK L k).length ≤ 100 * k
  | 0, _ => by simp [idxK]
  | k + 1, hk => by
    have ih := idxK_len L h hz k (by omega)
    rw [idxK_succ, List.length_append, List.length_append]
    have h1 : (blksB (L.take k)).length < 18446744073709551616 := by
      have h2 := blksB_split L k (by omega)
      rw [h2, List.length_append] at h; omega
    have h3 := numB_ten h1
    have h4 : (itemsB ((L.getD k []).take 1)).length ≤ 42 := by
      unfold itemsB
      have h5 : ((L.getD k []).take 1).length ≤ 1 := by rw [List.length_take]; omega
      generalize (L.getD k []).take 1 = q at h5
      rw [List.length_append]
      have h6 := numB_ten (n := q.length) (by omega)
      match q, h5 with
      | [], _ => simp at h6 ⊢; omega
      | [x], _ => have := itB_len x; simp at h6 ⊢; omega
    omega

/-! the filter -/
def fnvI (h : Int) (c : UInt8) : Int := IntKind.u64.wrap (bits .xor .u64 h (c.toNat : Int) * 1099511628211)
def hashI (l : List UInt8) : Int := l.foldl fnvI 14695981039346656037
theorem fnvI_bd (h : Int) (c : UInt8) : 0 ≤ fnvI h c ∧ fnvI h c < 18446744073709551616 := by unfold fnvI; rw [IntKind.wrap_u64]; omega
theorem hashI_bd (l : List UInt8) : 0 ≤ hashI l ∧ hashI l < 18446744073709551616 := by
  unfold hashI
  have h : ∀ (l : List UInt8) (x : Int), 0 ≤ x ∧ x < 18446744073709551616 → 0 ≤ l.foldl fnvI x ∧ l.foldl fnvI x < 18446744073709551616 := by
    intro l
    induction l with
    | nil => exact fun x hx => hx
    | cons c l ih => exact fun x _ => ih _ (fnvI_bd x c)
  exact h l _ (by omega)
theorem hashI_snoc (l : List UInt8) (k : Nat) (h : k < l.length) : hashI (l.take (k + 1)) = fnvI (hashI (l.take k)) l[k] := by
  rw [List.take_succ_eq_append_getElem h]
  unfold hashI
  rw [List.foldl_append]; rfl
/-- the i-th bit of a key, of m bits -/
def placeN (h : Int) (i m : Nat) : Nat := (IntKind.u32.wrap (IntKind.u32.wrap h + IntKind.u32.wrap ((i : Int) * IntKind.u32.wrap (h / 4294967296))) % (m : Int)).toNat
theorem placeN_lt (h : Int) (i : Nat) {m : Nat} (hm : 0 < m) : placeN h i m < m := by
  unfold placeN
  have h1 := Int.emod_lt_of_pos (IntKind.u32.wrap (IntKind.u32.wrap h + IntKind.u32.wrap ((i : Int) * IntKind.u32.wrap (h / 4294967296)))) (b := (m : Int)) (by omega)
  have h2 := Int.emod_nonneg (IntKind.u32.wrap (IntKind.u32.wrap h + IntKind.u32.wrap ((i : Int) * IntKind.u32.wrap (h / 4294967296)))) (b := (m : Int)) (by omega)
  omega
/-- bit p is set -/
def setP (b : List UInt8) (p : Nat) : List UInt8 := b.set (p / 8) (b.getD (p / 8) 0 ||| UInt8.ofNat (2 ^ (p % 8)))
def hasP (b : List UInt8) (p : Nat) : Bool := (b.getD (p / 8) 0).toNat / 2 ^ (p % 8) % 2 == 1
theorem setP_len (b : List UInt8) (p : Nat) : (setP b p).length = b.length := by simp [setP]
def setsP (b : List UInt8) (ps : List Nat) : List UInt8 := ps.foldl setP b
theorem setsP_len : ∀ (ps : List Nat) (b : List UInt8), (setsP b ps).length = b.length
  | [], b => rfl
  | p :: ps, b => (setsP_len ps (setP b p)).trans (setP_len b p)
theorem or_bit : ∀ (x : Fin 256) (i j : Fin 8), (UInt8.ofNat x.val ||| UInt8.ofNat (2 ^ i.val)).toNat / 2 ^ j.val % 2 = if i = j then 1 else x.val / 2 ^ j.val % 2 := by decide +kernel
theorem hasP_setP (b : List UInt8) (p q : Nat) (hp : p < 8 * b.length) : hasP (setP b p) q = (decide (p = q) || hasP b q) := by
  unfold hasP setP
  by_cases h8 : p / 8 = q / 8
  · have h1 := or_bit ⟨(b.getD (p / 8) 0).toNat, (b.getD (p / 8) 0).toNat_lt⟩ ⟨p % 8, by omega⟩ ⟨q % 8, by omega⟩
    have h2 : (b.set (p / 8) (b.getD (p / 8) 0 ||| UInt8.ofNat (2 ^ (p % 8)))).getD (q / 8) 0 = b.getD (p / 8) 0 ||| UInt8.ofNat (2 ^ (p % 8)) := by
      rw [← h8, List.getD_eq_getElem?_getD, List.getElem?_set_self (by omega)]; rfl
    rw [h2, ← h8]
    simp only [UInt8.ofNat_toNat] at h1
    rw [h1]
    by_cases he : p % 8 = q % 8
    · rw [if_pos (by simp [he])]
      have : p = q := by omega
      simp [this]
    · rw [if_neg (by simp [he])]
      have : p ≠ q := fun h => he (by rw [h])
      simp [this]
  · have h2 : (b.set (p / 8) (b.getD (p / 8) 0 ||| UInt8.ofNat (2 ^ (p % 8)))).getD (q / 8) 0 = b.getD (q / 8) 0 := by
      rw [List.getD_eq_getElem?_getD, List.getElem?_set_ne h8, List.getD_eq_getElem?_getD]
    rw [h2]
    have : p ≠ q := fun h => h8 (by rw [h])
    simp [this]
/-- the places of a key -/
def keyP (key : List UInt8) (k m : Nat) : List Nat := (List.range k).map fun i => placeN (hashI key) i m
theorem keyP_succ (key : List UInt8) (k m : Nat) : keyP key (k + 1) m = keyP key k m ++ [placeN (hashI key) k m] := by simp [keyP, List.range_succ]
theorem keyP_len (key : List UInt8) (k m : Nat) : (keyP key k m).length = k := by simp [keyP]
theorem keyP_lt {key : List UInt8} {k m p : Nat} (hm : 0 < m) (h : p ∈ keyP key k m) : p < m := by
  obtain ⟨i, _, rfl⟩ := List.mem_map.1 h
  exact placeN_lt _ _ hm
def addF (b key : List UInt8) : List UInt8 := setsP b (keyP key 7 (b.length * 8))
def hasF (b key : List UInt8) : Bool := (keyP key 7 (b.length * 8)).all (hasP b)
theorem addF_len (b key : List UInt8) : (addF b key).length = b.length := setsP_len _ _
theorem hasP_setsP (q : Nat) : ∀ (ps : List Nat) (b : List UInt8), (∀ p ∈ ps, p < 8 * b.length) → hasP (setsP b ps) q = (decide (q ∈ ps) || hasP b q)
  | [], b, _ => by simp [setsP]
  | p :: ps, b, h => by
    show hasP (setsP (setP b p) ps) q = _
    rw [hasP_setsP q ps (setP b p) (fun x hx => by rw [setP_len]; exact h x (List.mem_cons_of_mem _ hx)), hasP_setP b p q (h p List.mem_cons_self)]
    simp only [List.mem_cons]
    by_cases h2 : p = q
    · subst h2; simp
    · have h3 : ¬ q = p := fun h => h2 h.symm
      simp [h2, h3]
def newF (n : Nat) : List UInt8 := List.replicate ((max (n * 10) 64 + 7) / 8) 0
theorem newF_len (n : Nat) : (newF n).length = (max (n * 10) 64 + 7) / 8 := List.length_replicate
def filK (l : List It) (k : Nat) : List UInt8 := (l.take k).foldl (fun b x => addF b (keyB x)) (newF l.length)
def filB (l : List It) : List UInt8 := filK l l.length
theorem filK_succ (l : List It) (k : Nat) (h : k < l.length) : filK l (k + 1) = addF (filK l k) (keyB l[k]) := by
  unfold filK
  rw [List.take_succ_eq_append_getElem h, List.foldl_append]; rfl
theorem filK_len (l : List It) : ∀ k, (filK l k).length = (max (l.length * 10) 64 + 7) / 8 := by
  have h : ∀ (q : List It) (b : List UInt8), (q.foldl (fun b x => addF b (keyB x)) b).length = b.length := by
    intro q
    induction q with
    | nil => exact fun b => rfl
    | cons x q ih => exact fun b => (ih _).trans (addF_len _ _)
  intro k
  unfold filK
  rw [h, newF_len]
/-- what was put in is there -/
theorem filB_has (l : List It) {x : It} (hx : x ∈ l) : hasF (filB l) (keyB x) = true := by
  have hkeep : ∀ (q : List It) (b : List UInt8) (p : Nat), 0 < b.length → hasP b p = true → hasP (q.foldl (fun b x => addF b (keyB x)) b) p = true := by
    intro q
    induction q with
    | nil => exact fun b p _ h => h
    | cons y q ih =>
      intro b p hb h
      refine ih _ p (by rw [addF_len]; exact hb) ?_
      unfold addF
      rw [hasP_setsP p _ b (fun z hz => by have := keyP_lt (by omega) hz; omega), h, Bool.or_true]
  obtain ⟨a, b, rfl⟩ := List.append_of_mem hx
  unfold hasF
  rw [List.all_eq_true]
  intro p hp
  unfold filB at hp ⊢
  rw [filK_len] at hp
  generalize hn : (a ++ x :: b).length = n at *
  have hm : (newF n).length = (max (n * 10) 64 + 7) / 8 := newF_len n
  unfold filK
  rw [List.take_of_length_le (by omega), hn, List.foldl_append, List.foldl_cons]
  have hlen : ∀ (q : List It) (b : List UInt8), (q.foldl (fun b x => addF b (keyB x)) b).length = b.length := by
    intro q
    induction q with
    | nil => exact fun b => rfl
    | cons x q ih => exact fun b => (ih _).trans (addF_len _ _)
  have h1 := hlen a (newF n)
  generalize a.foldl (fun b x => addF b (keyB x)) (newF n) = f at *
  refine hkeep b _ p (by rw [addF_len]; omega) ?_
  unfold addF
  rw [hasP_setsP p _ f (fun z hz => by have := keyP_lt (by omega) hz; omega), h1, hm]
  simp [hp]
/-- a filter as bytes -/
def blmB (b : List UInt8) : List UInt8 := numB 7 ++ numB b.length ++ b

/-! a table -/
def makeE (l : List It) : Nat := if 2000 < l.length then 2 else if risesB l && l.all okB then 0 else 1
def rowsC (l : List It) : List (List It) := cutL 20 l
def tb1 (l : List It) : List UInt8 := blksB (rowsC l)
def tb2 (l : List It) : List UInt8 := tb1 l ++ frameB 3 (idxK (rowsC l) (rowsC l).length)
def tb3 (l : List It) : List UInt8 := tb2 l ++ frameB 4 (blmB (filB l))
def endB (l : List It) : List UInt8 := numB (tb1 l).length ++ numB (tb2 l).length ++ numB l.length
def tabB (l : List It) : List UInt8 := tb3 l ++ frameB 5 (endB l)
def makeL (l : List It) : List UInt8 := if makeE l = 0 then tabB l else []
theorem makeE_ok {l : List It} (h : makeE l = 0) : l.length ≤ 2000 ∧ riseR l ∧ (∀ y ∈ l, okB y = true) ∧ risesB l = true := by
  unfold makeE at h
  by_cases h1 : 2000 < l.length
  · rw [if_pos h1] at h; cases h
  rw [if_neg h1] at h
  by_cases h2 : (risesB l && l.all okB) = true
  · rw [Bool.and_eq_true] at h2
    exact ⟨by omega, riseR_of h2.1, List.all_eq_true.1 h2.2, h2.1⟩
  · rw [if_neg h2] at h; cases h
theorem makeE_yes {l : List It} (h1 : l.length ≤ 2000) (h2 : riseR l) (h3 : ∀ y ∈ l, okB y = true) : makeE l = 0 := by
  unfold makeE
  rw [if_neg (by omega), risesB_yes (riseR_yes h2), List.all_eq_true.2 h3]; rfl
theorem makeE_q {l : List It} (h : l.length ≤ 2000) : makeE (qL l) = 0 := makeE_yes (Nat.le_trans (qL_len l) h) (qL_rise l) (qL_ok l)
theorem rowsC_len (l : List It) : (rowsC l).length ≤ l.length / 20 + 1 := by
  unfold rowsC
  rw [cutL_len]
  unfold partsK
  omega
theorem rowsC_row {l z : List It} (h : z ∈ rowsC l) : z.length ≤ 20 ∧ 0 < z.length := by
  obtain ⟨j, hj, rfl⟩ := cutL_row (by decide) h
  rw [List.length_take, List.length_drop]; omega
theorem rowsC_may {l z : List It} (h : makeE l = 0) (hz : z ∈ rowsC l) : bErr z = 0 := by
  obtain ⟨h1, h2, h3, h4⟩ := makeE_ok h
  exact cut_may (by decide) (by decide) h2 h3 hz
theorem rowsC_flat (l : List It) : (rowsC l).flatten = l := cutL_flat (by decide) l
theorem tb1_len {l : List It} (h : l.length ≤ 2000) : (tb1 l).length ≤ 325422 := by
  have h1 := blksB_len (rowsC l) (fun z hz => by have := (rowsC_row hz).1; omega)
  have h2 := rowsC_len l
  unfold tb1; omega
theorem idx_len {l : List It} (h : l.length ≤ 2000) : (idxK (rowsC l) (rowsC l).length).length ≤ 10100 := by
  have h1 := tb1_len h
  have h2 := idxK_len (rowsC l) (by have : (tb1 l).length = (blksB (rowsC l)).length := rfl; omega) (fun z hz => by have := (rowsC_row hz).1; omega) _ (Nat.le_refl _)
  have h3 := rowsC_len l
  omega
theorem blm_len {l : List It} (h : l.length ≤ 2000) : (blmB (filB l)).length ≤ 2600 := by
  have h1 := filK_len l l.length
  have h2 : (numB (filB l).length).length ≤ 10 := numB_ten (by unfold filB; omega)
  have h3 : (numB 7).length = 1 := by decide +kernel
  unfold blmB
  rw [List.length_append, List.length_append, h3]
  unfold filB at h2 ⊢
  omega
theorem tb2_len {l : List It} (h : l.length ≤ 2000) : (tb2 l).length ≤ 336000 := by
  have h1 := tb1_len h
  have h2 := idx_len h
  unfold tb2
  rw [List.length_append, frameB_len]; omega
theorem end_len {l : List It} (h : l.length ≤ 2000) : (endB l).length ≤ 30 := by
  have h1 := tb1_len h
  have h2 := tb2_len h
  have h3 := numB_ten (n := (tb1 l).length) (by omega)
  have h4 := numB_ten (n := (tb2 l).length) (by omega)
  have h5 := numB_ten (n := l.length) (by omega)
  unfold endB
  rw [List.length_append, List.length_append]; omega
theorem tab_len {l : List It} (h : l.length ≤ 2000) : (tabB l).length ≤ 340000 := by
  have h1 := tb2_len h
  have h2 := blm_len h
  have h3 := end_len h
  unfold tabB tb3
  rw [List.length_append, List.length_append, frameB_len, frameB_len]; omega
/-- a table is one row of frames -/
def tailB (l : List It) : List UInt8 := frameB 3 (idxK (rowsC l) (rowsC l).length) ++ (frameB 4 (blmB (filB l)) ++ frameB 5 (endB l))
theorem tabB_parts (l : List It) : tabB l = blksB (rowsC l) ++ tailB l := by
  unfold tabB tb3 tb2 tb1 tailB
  simp only [List.append_assoc]

/-! what is read -/
/-- the blocks from a place on -/
def scanL : Nat → List UInt8 → Int → List (List It)
  | 0, _, _ => []
  | f + 1, b, at_ => if (takeB b at_).1 = 0 then (takeB b at_).2.1 :: scanL f b (takeB b at_).2.2 else []
theorem scanL_canon : ∀ (f : Nat) (b : List UInt8) (p : Nat), scanL f b (p : Int) = [] ∨ True := fun _ _ _ => .inr trivial
theorem takeB_kind (b : List UInt8) (k : Nat) (l rest : List UInt8) (hk1 : 1 ≤ k) (hk2 : k ≤ 100) (hk : k ≠ 2) (hl : l.length ≤ 60000) : takeB (b ++ (frameB (k : Int) l ++ rest)) (b.length : Int) = (9, [], 0) := by
  have ht := takeF_frame b k l rest hk1 hk2 hl
  unfold takeB
  simp only [ht]
  rw [if_neg (by decide), if_pos (.inr hk)]
theorem scan_rows (T : List UInt8) (L : List (List It)) (hL : ∀ z ∈ L, bErr z = 0) (hT : takeB (blksB L ++ T) ((blksB L).length : Int) = (9, [], 0)) : ∀ (n k f : Nat), k + n = L.length → n < f → scanL f (blksB L ++ T) ((blksB (L.take k)).length : Int) = L.drop k
  | 0, k, f + 1, hk, _ => by
    rw [List.take_of_length_le (by omega), List.drop_eq_nil_of_le (by omega)]
    unfold scanL
    rw [hT]
    rfl
  | n + 1, k, f + 1, hk, hf => by
    have hkl : k < L.length := by omega
    have h1 := takeB_frame (blksB (L.take k)) (blksB (L.drop (k + 1)) ++ T) (hL L[k] (List.getElem_mem _))
    have h2 := frameB_len 2 (itemsB L[k])
    have h3 : blksB (L.take k) ++ (frameB 2 (itemsB L[k]) ++ (blksB (L.drop (k + 1)) ++ T)) = blksB L ++ T := by
      conv => rhs; rw [blksB_split L k hkl]
      simp only [List.append_assoc]
    rw [h3] at h1
    have h4 : (blksB (L.take (k + 1))).length = (blksB (L.take k)).length + ((itemsB L[k]).length + 12) := by rw [blksB_snoc L k hkl, List.length_append, h2]
    rw [List.drop_eq_getElem_cons hkl]
    unfold scanL
    rw [h1, if_pos rfl, ← h4]
    exact congrArg _ (scan_rows T L hL hT n (k + 1) f (by omega) (by omega))
theorem scan_tab {l : List It} (h : makeE l = 0) {f : Nat} (hf : (tabB l).length < f) : scanL f (tabB l) 0 = rowsC l := by
  obtain ⟨h1, h2, h3, h4⟩ := makeE_ok h
  have hT : takeB (blksB (rowsC l) ++ tailB l) ((blksB (rowsC l)).length : Int) = (9, [], 0) := by
    have := idx_len h1
    exact takeB_kind _ 3 _ _ (by omega) (by omega) (by omega) (by omega)
  have hn : (rowsC l).length ≤ (blksB (rowsC l)).length := by
    have : ∀ L : List (List It), L.length ≤ (blksB L).length := by
      intro L
      induction L with
      | nil => exact Nat.le_refl _
      | cons z L ih =>
        have h3 : blksB (z :: L) = frameB 2 (itemsB z) ++ blksB L := by simp [blksB]
        rw [h3, List.length_append, frameB_len, List.length_cons]; omega
    exact this _
  have h5 := scan_rows (tailB l) (rowsC l) (fun z hz => rowsC_may h hz) hT (rowsC l).length 0 f (by omega) (by rw [tabB_parts, List.length_append] at hf; omega)
  rw [← tabB_parts] at h5
  exact h5
/-- Read: the rows, if the bytes are a table -/
def readT (b : List UInt8) : Option (List (List It)) :=
  let L := scanL (b.length + 1) b 0
  if makeE L.flatten = 0 ∧ tabB L.flatten = b then some L else none
theorem readT_tab {l : List It} (h : makeE l = 0) : readT (tabB l) = some (rowsC l) := by
  unfold readT
  simp only [scan_tab h (Nat.lt_succ_self _), rowsC_flat]
  rw [if_pos ⟨h, trivial⟩]
theorem readT_some {b : List UInt8} {L : List (List It)} (h : readT b = some L) : makeE L.flatten = 0 ∧ tabB L.flatten = b ∧ L = rowsC L.flatten := by
  have h0 := h
  unfold readT at h
  simp only [] at h
  by_cases hc : makeE (scanL (b.length + 1) b 0).flatten = 0 ∧ tabB (scanL (b.length + 1) b 0).flatten = b
  · rw [if_pos hc] at h
    injection h with h
    rw [h] at hc
    refine ⟨hc.1, hc.2, ?_⟩
    have h2 := readT_tab hc.1
    rw [hc.2, h0] at h2
    injection h2
  · rw [if_neg hc] at h; cases h
end Go.Proofs.YtfmjgkfblejknaaGreat

/-
  The walks of sum.Hash, of bloom.New, places, Add, Bytes.
-/
namespace Go.Proofs.YtfmjgkfblejknaaGreat
open Go.RowKit
set_option linter.unusedVariables false
set_option linter.unusedSimpArgs false

theorem bvs_at {l : List UInt8} {k : Nat} (h : k < l.length) : l.getD k 0 = l[k] := by simp [List.getD, h]
set_option maxRecDepth 100000 in
set_option maxHeartbeats 1600000 in
theorem hash_any (A : Option Addr) (n c : Nat) (l : List UInt8) (w : World) (hr : Rd w w.heap.size 1 A n (bvs l)) (hn : n ≤ 9223372036854775807) :
    Calls Tryz.prog 98 #[.slice A n c] w fun e w' => e = .returned (.int .u64 (hashI l)) ∧ w = w' := by
  have HL := Lib.hid hr.blen
  go_enter Tryz.func98, Tryz.ntmps98
  go_wp2_with fail
  go_loop [3, 8] (fun q i => ∃ (k : Nat) (h : Int), i = .int .i64 (k : Int) ∧ q = .int .u64 h ∧ k ≤ n ∧ Hid (hashI (l.take k) = h)) (fun _ i => n - (intOf i).toNat)
  case atStart => exact ⟨0, _, rfl, rfl, by omega, rfl⟩
  case round =>
    obtain ⟨k, h, rfl, rfl, hk, hH⟩ := hrel
    by_cases hlt : k < n
    · obtain ⟨b, o, rfl, hb, hc⟩ := hr.byte hlt
      have hkl : k < l.length := by have := HL.out; omega
      have hs := hashI_snoc l k hkl
      rw [hH.out, ← bvs_at hkl] at hs
      generalize l.getD k 0 = b0 at hc hs
      have HS := Lib.hid hs
      have hm : IntKind.u64.wrap (bits .xor .u64 h (b0.toNat : Int) * 1099511628211) = fnvI h b0 := rfl
      have hm2 : (bits .xor .u64 h (b0.toNat : Int) * 1099511628211) % 18446744073709551616 = fnvI h b0 := by rw [← hm, IntKind.wrap_u64]
      have hb8 := b0.toNat_lt
      have hb6 : (b0.toNat : Int) % 18446744073709551616 = (b0.toNat : Int) := by omega
      clear hs
      go_wp2_with fail
      go_round
      case rel => exact ⟨k + 1, _, by go_num, rfl, by omega, HS⟩
      case measure => simp [intOf]; omega
    · have hkn : k = l.length := by have := HL.out; omega
      have hf := hH.out
      rw [hkn, List.take_of_length_le (Nat.le_refl _)] at hf
      have HF := Lib.hid hf
      clear hf hkn
      go_wp2_with fail
      go_ret
      refine ⟨?_, rfl⟩
      show Ending.returned (.int .u64 h) = _
      rw [HF.out]
/-- bytes that fill a block -/
def BegE (g : Nat) (l : List UInt8) (w : World) : Prop := w.heap[g]? = some (.cells (bvs l).toArray 5 (0, 0))
theorem BegE.lt {g : Nat} {l : List UInt8} {w : World} (h : BegE g l w) : g < w.heap.size := (Array.getElem?_eq_some_iff.1 h).1
theorem BegE.sta {g : Nat} {l : List UInt8} {w w' : World} {Y : Nat → Prop} (h : BegE g l w) (hs : Rg.Sta Y w w') (hy : Y g) : BegE g l w' := (hs.block g h.lt hy).trans h
theorem BegE.up {g : Nat} {l : List UInt8} {w w' : World} (h : BegE g l w) (hu : Up w w') : BegE g l w' := (hu.block g h.lt).trans h
theorem BegE.cell {g : Nat} {l : List UInt8} {w : World} (h : BegE g l w) {j : Nat} (hj : j < l.length) : w.cell? ⟨g, j, none⟩ = some (bv (l.getD j 0)) := by
  rw [cell_of_row w g j _ _ _ h]
  simp [bvs, hj]
theorem BegE.free {g : Nat} {l : List UInt8} {w : World} (h : BegE g l w) {j : Nat} : w.frozen? ⟨g, j, none⟩ = false := by
  have hh : w.heap[g]? = some (.cells (bvs l).toArray 5 (0, 0)) := h
  simp [World.frozen?, hh]
theorem BegE.rd {g : Nat} {l : List UInt8} {w : World} (h : BegE g l w) : Rd w w.heap.size 1 (some ⟨g, 0, none⟩) l.length (bvs l) := by
  refine ⟨by rw [bvs_length, Nat.mul_one], fun _ => ⟨g, 0, rfl, h.lt, fun j u hu => ?_⟩⟩
  have hj := (List.getElem?_eq_some_iff.1 hu).1
  rw [bvs_length] at hj
  rw [Nat.zero_add, h.cell hj, ← hu]
  simp [bvs, hj]
theorem BegE.set {g : Nat} {l : List UInt8} {w : World} (h : BegE g l w) {j : Nat} (hj : j < l.length) (x : UInt8) : BegE g (l.set j x) (w.setCell ⟨g, j, none⟩ (bv x)) := by
  have hh : w.heap[g]? = some (.cells (bvs l).toArray 5 (0, 0)) := h
  unfold BegE
  have e : (bvs (l.set j x)).toArray = (bvs l).toArray.setIfInBounds j (bv x) := by
    apply Array.ext'
    simp [bvs, List.map_set]
  rw [e]
  simp [World.setCell, Array.getElem?_modify, hh]
/-- a filter's head and its bits -/
def FilAt (B g b : Nat) (bs : List UInt8) (w : World) : Prop :=
  w.heap[g]? = some (.cells #[.int .i64 7, .slice (some ⟨b, 0, none⟩) bs.length bs.length] 113 (0, 0)) ∧ BegE b bs w ∧ B ≤ g ∧ B ≤ b ∧ g = b + 1
theorem FilAt.ne {B g b : Nat} {bs : List UInt8} {w : World} (h : FilAt B g b bs w) : g ≠ b := by have := h.2.2.2.2; omega
theorem FilAt.up {B g b : Nat} {bs : List UInt8} {w w' : World} (h : FilAt B g b bs w) (hu : Up w w') : FilAt B g b bs w' := ⟨blk_up hu h.1, h.2.1.up hu, h.2.2⟩
theorem FilAt.base {B B' g b : Nat} {bs : List UInt8} {w : World} (h : FilAt B g b bs w) (hb : B' ≤ B) : FilAt B' g b bs w := ⟨h.1, h.2.1, Nat.le_trans hb h.2.2.1, Nat.le_trans hb h.2.2.2.1, h.2.2.2.2⟩
theorem zb_beg (w : World) (m : Nat) : BegE w.heap.size (List.replicate m 0) (w.alloc (.cells (zb m) 5)) := heap_alloc_new w _
set_option maxRecDepth 100000 in
set_option maxHeartbeats 1600000 in
theorem bnew_any (n : Nat) (w : World) (hn : n ≤ 2000) :
    Calls Tryz.prog 73 #[.int .i64 (n : Int), .int .i64 10] w fun e w' => ∃ g b, e = .returned (.tuple #[.pointer (some ⟨g, 0, none⟩), .int .i64 0]) ∧ FilAt w.heap.size g b (newF n) w' ∧ Up w w' := by
  obtain ⟨m, hm⟩ : ∃ m : Nat, m = (max (n * 10) 64 + 7) / 8 := ⟨_, rfl⟩
  have hm2 : m ≤ 2501 := by omega
  have hnf : newF n = List.replicate m 0 := by unfold newF; rw [hm]
  have hx1 : max (7 : Int) 1 = 7 := by decide
  have hx2 : (max ((n : Int) * 10) 64 + 8 - 1) / 8 = (m : Int) := by omega
  have hmk : ∀ W, (Instr.makeSlice 22 (.int .i64 (m : Int)) (.int .i64 (m : Int))).run Tryz.prog W = .ok (.slice (some ⟨W.heap.size, 0, none⟩) m m) (W.alloc (.cells (zb m) 5)) := fun W => by
    have h := make_b W .i64 .i64 (m : Int) (by omega) (by omega)
    rwa [Int.toNat_natCast] at h
  have HNF := Lib.hid hnf
  clear hm hnf
  go_enter Tryz.func73, Tryz.ntmps73
  go_wp2_with fail
  refine bodyPost_ret (v := .tuple #[.pointer (some ⟨w.heap.size + 1, 0, none⟩), .int .i64 0]) (by simp [results, Tryz.results73, go_sem]) rfl ?_
  refine ⟨w.heap.size + 1, w.heap.size, rfl, ⟨?_, ?_, by omega, by omega, by omega⟩, ((Up.refl _).alloc _).alloc _⟩
  · have h := heap_alloc_new (w.alloc (.cells (zb m) 5)) (.cells #[.int .i64 7, .slice (some ⟨w.heap.size, 0, none⟩) m m] 113)
    rw [World.size_alloc] at h
    rw [HNF.out, List.length_replicate]
    exact h
  · rw [HNF.out]
    exact (zb_beg w m).up ((Up.refl _).alloc _)
theorem intsN : SlT Tryz.prog 33 3 1 8 := SlT.mk' Tryz.underlying33 (z := .int .i64 0) (by kernel_rfl) rfl (by decide)
set_option maxRecDepth 100000 in
set_option maxHeartbeats 3200000 in
theorem places_any (B g b : Nat) (bs : List UInt8) (A : Option Addr) (n c : Nat) (key : List UInt8) (w : World) (hf : FilAt B g b bs w) (hk : Rd w w.heap.size 1 A n (bvs key)) (hn : n ≤ 1000) (hb0 : 0 < bs.length) (hb1 : bs.length ≤ 3000) :
    Calls Tryz.prog 78 #[.pointer (some ⟨g, 0, none⟩), .slice A n c] w fun e w' => ∃ R rc, e = .returned (.slice R 7 rc) ∧ w'.ownsRow w.heap.size 3 1 (.slice R 7 rc) 7 (nvi (keyP key 7 (bs.length * 8))) ∧ Up w w' := by
  obtain ⟨h, hh⟩ : ∃ h, h = hashI key := ⟨_, rfl⟩
  have hbd := hashI_bd key
  rw [← hh] at hbd
  have hha := hash_any A n c key w hk (by omega)
  rw [← hh] at hha
  obtain ⟨L, hL⟩ : ∃ L, L = bs.length := ⟨_, rfl⟩
  obtain ⟨M, hM⟩ : ∃ M, M = L * 8 := ⟨_, rfl⟩
  have k0 : w.cell? ⟨g, 0, none⟩ = some (.int .i64 7) := blk_cell hf.1 0
  have k1 : w.cell? ⟨g, 1, none⟩ = some (.slice (some ⟨b, 0, none⟩) L L) := by rw [hL]; exact blk_cell hf.1 1
  have hm1 : (L : Int) * 8 = (M : Int) := by omega
  have hkp : keyP key 7 (bs.length * 8) = keyP key 7 M := by rw [hM, hL]
  rw [hkp]
  have hM0 : 0 < M := by omega
  have hM1 : M ≤ 24000 := by omega
  have hkk : ∀ k, keyP key (k + 1) M = keyP key k M ++ [placeN h k M] := fun k => by rw [hh]; exact keyP_succ key k M
  have hpl : ∀ k, placeN h k M < M := fun k => placeN_lt h k hM0
  have HPL := Lib.hid hpl
  have HKK := Lib.hid hkk
  have HHA := Lib.hid hha
  have nil0 : w.ownsRow w.heap.size 3 1 (.slice none 0 0) 0 (nvi (keyP key 0 M)) := World.ownsRow_nil _ _ _ _
  have NIL := Lib.hid nil0
  clear hh hha hf hL hM hb0 hb1 hkp hkk hpl nil0
  go_enter Tryz.func78, Tryz.ntmps78
  go_wp2_with fail
  refine HHA.out.mono ?_
  rintro e w1 ⟨rfl, rfl⟩
  go_wp2_with fail
  go_loopw [9, 29] (fun v i wr => ∃ (k : Nat) (R : Option Addr) (rc : Nat), i = .int .i64 (k : Int) ∧ v = .slice R k rc ∧ k ≤ 7 ∧ wr.ownsRow w.heap.size 3 1 (.slice R k rc) k (nvi (keyP key k M)) ∧ Up w wr) (fun _ i _ => 7 - (intOf i).toNat)
  case atStart => exact ⟨0, none, 0, rfl, rfl, by omega, NIL.out, Up.refl _⟩
  case round =>
    obtain ⟨k, R, rc, rfl, rfl, hk7, hown, hu⟩ := hrel
    by_cases hlt : k < 7
    · have i1 : (k : Int) < 7 := by omega
      obtain ⟨pp, hpp⟩ : ∃ pp, pp = placeN h k M := ⟨_, rfl⟩
      have hplt := HPL.out k
      have hkk := HKK.out k
      rw [← hpp] at hplt hkk
      have hpv : ((IntKind.u32.wrap (IntKind.u32.wrap h + IntKind.u32.wrap ((k : Int) * IntKind.u32.wrap (h / 4294967296)))) % (M : Int)) = (pp : Int) := by
        rw [hpp]; unfold placeN
        rw [Int.toNat_of_nonneg (Int.emod_nonneg _ (by omega))]
      rw [IntKind.wrap_u32, IntKind.wrap_u32, IntKind.wrap_u32, IntKind.wrap_u32] at hpv
      have hhi : h / 4294967296 % 4294967296 = h / 4294967296 := by omega
      rw [hhi] at hpv
      simp only [Int.emod_add_emod, Int.add_emod_emod] at hpv
      have hw : IntKind.i64.wrap (pp : Int) = (pp : Int) := IntWalk.i64_in _ (by omega)
      have hkc : (k : Int) % 4294967296 = (k : Int) := by omega
      clear hhi
      have HPP := Lib.hid hpp
      have HKN := Lib.hid hkk
      clear hpp hkk
      go_wp2_with (at_builtin; refine wpList_append_rd _ intsN (news := nvi [pp]) (World.ownsRow.alloc hown _) (Rd.box _ _ _) (nvi_one _) (by omega) (by omega) (by rw [World.size_alloc]; have := hu.size; omega) rfl rfl rfl rfl ?_; intro v3 w3 hown3 hg3 hat3; obtain ⟨R3, rc3, rfl⟩ := own_form hown3)
      have hu3 : Up w w3 := (hu.alloc _).grown hg3 (fun g hg => (hown.lt g hg).1)
      go_roundw
      case rel => exact ⟨k + 1, R3, rc3, by go_num, rfl, by omega, by rw [HKN.out, show nvi (keyP key k M ++ [pp]) = nvi (keyP key k M) ++ nvi [pp] by simp [nvi]]; exact hown3, hu3⟩
      case measure => simp [intOf]; omega
    · have i1 : ¬ (k : Int) < 7 := by omega
      obtain rfl : k = 7 := by omega
      go_wp2_with fail
      go_ret
      exact ⟨R, rc, rfl, hown, hu⟩
end Go.Proofs.YtfmjgkfblejknaaGreat

/-
  The walks of bloom's Add and Bytes, and of table.filter.
-/
namespace Go.Proofs.YtfmjgkfblejknaaGreat
open Go.RowKit
set_option linter.unusedVariables false
set_option linter.unusedSimpArgs false

theorem KeepsT {X : Nat → Prop} {a b c : World} (h : Rg.Keeps X a b) (k : Rg.Keeps X b c) : Rg.Keeps X a c :=
  ⟨k.os.trans h.os, k.tape.trans h.tape, k.output.trans h.output, Nat.le_trans h.size k.size, fun i hi hx => (k.block i (Nat.lt_of_lt_of_le hi h.size) hx).trans (h.block i hi hx)⟩
theorem or_wrap_pow {r : Nat} (hr : r < 8) : IntKind.u8.wrap ((2 : Int) ^ r) = ((UInt8.ofNat (2 ^ r)).toNat : Int) := by
  rw [(pow_bits r hr).2, IntKind.wrap_u8]
  have h : r = 0 ∨ r = 1 ∨ r = 2 ∨ r = 3 ∨ r = 4 ∨ r = 5 ∨ r = 6 ∨ r = 7 := by omega
  rcases h with rfl | rfl | rfl | rfl | rfl | rfl | rfl | rfl <;> decide
theorem setsP_snoc (b : List UInt8) (ps : List Nat) (p : Nat) : setsP b (ps ++ [p]) = setP (setsP b ps) p := by unfold setsP; rw [List.foldl_append]; rfl
set_option maxRecDepth 100000 in
set_option maxHeartbeats 3200000 in
theorem fadd_any (B g b : Nat) (bs : List UInt8) (A : Option Addr) (n c : Nat) (key : List UInt8) (w : World) (hf : FilAt B g b bs w) (hk : Rd w w.heap.size 1 A n (bvs key)) (hn : n ≤ 1000) (hb0 : 0 < bs.length) (hb1 : bs.length ≤ 3000) :
    Calls Tryz.prog 74 #[.pointer (some ⟨g, 0, none⟩), .slice A n c] w fun e w' => e = .returned (.tuple #[]) ∧ FilAt B g b (addF bs key) w' ∧ Rg.Keeps (fun x => x = b) w w' := by
  have hpl := places_any B g b bs A n c key w hf hk hn hb0 hb1
  have hkl := keyP_len key 7 (bs.length * 8)
  have hkt : ∀ p ∈ keyP key 7 (bs.length * 8), p < bs.length * 8 := fun p hp => keyP_lt (by omega) hp
  have hfin : addF bs key = setsP bs (keyP key 7 (bs.length * 8)) := rfl
  rw [hfin]
  generalize keyP key 7 (bs.length * 8) = ps at *
  obtain ⟨L, hL⟩ : ∃ L, L = bs.length := ⟨_, rfl⟩
  have hhd : w.heap[g]? = some (.cells #[.int .i64 7, .slice (some ⟨b, 0, none⟩) L L] 113 (0, 0)) := by rw [hL]; exact hf.1
  rw [← hL] at hkt hb1 hb0
  have hbl := hf.2.1.lt
  have hgl := (Array.getElem?_eq_some_iff.1 hhd).1
  have HPL := Lib.hid hpl
  have HKL := Lib.hid hkl
  have HKT := Lib.hid hkt
  have HF := Lib.hid hf
  have HLL := Lib.hid hL
  clear hpl hkl hkt hfin hf hL
  go_enter Tryz.func74, Tryz.ntmps74
  go_wp2_with fail
  refine HPL.out.mono ?_
  rintro e w1 ⟨R, rc, rfl, hown, hu1⟩
  obtain ⟨gR, rfl, hgR, hcR⟩ : ∃ gR, R = some ⟨gR, 0, none⟩ ∧ (w.heap.size ≤ gR ∧ gR < w1.heap.size) ∧ ∀ (k p : Nat), ps[k]? = some p → w1.cell? ⟨gR, k, none⟩ = some (.int .i64 (p : Int)) := by
    have hrd := Rd.own hown
    rcases hown.2 with ⟨h1, h2⟩ | ⟨gR, cap, cur, h1, h2, -⟩
    · cases h1
    · injection h1 with h1
      subst h1
      obtain ⟨b9, o9, e9, hb9, hc9⟩ := hrd.2 (by omega)
      injection e9 with e9
      injection e9 with e9 e8
      subst e9; subst e8
      refine ⟨gR, rfl, ⟨h2, hb9⟩, fun k p hp => ?_⟩
      have h5 := hc9 k (.int .i64 (p : Int)) (by simp [nvi, hp])
      rwa [Nat.zero_add] at h5
  have HCR := Lib.hid hcR
  have hK0 : Rg.Keeps (fun x => x = b) w w1 := Rg.Keeps.of_up hu1
  have hB0 : BegE b (setsP bs (ps.take 0)) w1 := HF.out.2.1.up hu1
  clear hcR
  go_wp2_with fail
  go_loopw [10] (fun i wr => ∃ t : Nat, i = .int .i64 (t : Int) ∧ t ≤ 7 ∧ BegE b (setsP bs (ps.take t)) wr ∧ Rg.Keeps (fun x => x = b) w1 wr) (fun i _ => 7 - (intOf i).toNat)
  case atStart => exact ⟨0, rfl, by omega, hB0, Rg.Keeps.refl _ _⟩
  case round =>
    obtain ⟨t, rfl, ht, hbr, hKr⟩ := hrel
    by_cases hlt : t < 7
    · have i1 : (t : Int) < 7 := by omega
      obtain ⟨p, hp⟩ : ∃ p, ps[t]? = some p := ⟨ps[t]'(by have := HKL.out; omega), List.getElem?_eq_getElem _⟩
      have hpM := HKT.out p (List.mem_of_getElem? hp)
      have hcx : wr.cell? ⟨gR, t, none⟩ = some (.int .i64 (p : Int)) := (World.cell?_of_block (a := ⟨gR, t, none⟩) (hKr.block gR hgR.2 (by intro h; have h9 : gR = b := h; omega))).trans (HCR.out t p hp)
      have htk : ps.take (t + 1) = ps.take t ++ [p] := by
        obtain ⟨h1, h2⟩ := List.getElem?_eq_some_iff.1 hp
        rw [List.take_succ_eq_append_getElem h1, h2]
      have hlen := setsP_len (ps.take t) bs
      have hsn : setsP bs (ps.take (t + 1)) = setP (setsP bs (ps.take t)) p := by rw [htk, setsP_snoc]
      generalize setsP bs (ps.take t) = l at *
      have hlL : l.length = L := by rw [hlen]; exact HLL.out.symm
      have HSN := Lib.hid hsn
      have HLN := Lib.hid hlL
      clear hp htk hlen hsn hlL
      have hpl : p / 8 < l.length := by have := HLN.out; omega
      obtain ⟨j, hj⟩ : ∃ j, j = p / 8 := ⟨_, rfl⟩
      obtain ⟨r, hr⟩ : ∃ r, r = p % 8 := ⟨_, rfl⟩
      have hr8 : r < 8 := by omega
      have a3 : (p : Int) / 8 = (j : Int) := by omega
      have a4 : (p : Int) % 8 = (r : Int) := by omega
      rw [← hj] at hpl
      have hjL : j < L := by have := HLN.out; omega
      have hjI : (j : Int) < (L : Int) := by omega
      have a2 : IntKind.i64.wrap (p : Int) = (p : Int) := IntWalk.i64_in _ (by omega)
      have a5 : Int.tdiv (p : Int) 8 = (j : Int) := by rw [Int.tdiv_eq_ediv_of_nonneg (by omega)]; exact a3
      have a6 : Int.tmod (p : Int) 8 = (r : Int) := by rw [Int.tmod_eq_emod_of_nonneg (by omega)]; exact a4
      have a7 : IntKind.i64.wrap (j : Int) = (j : Int) := IntWalk.i64_in _ (by omega)
      have a8 : IntKind.i64.wrap (r : Int) = (r : Int) := IntWalk.i64_in _ (by omega)
      have HJ := Lib.hid hj
      have HR := Lib.hid hr
      clear hj hr
      obtain ⟨b0, hb0'⟩ : ∃ b0, b0 = l.getD j 0 := ⟨_, rfl⟩
      obtain ⟨b2, hb2⟩ : ∃ b2, b2 = UInt8.ofNat (2 ^ r) := ⟨_, rfl⟩
      obtain ⟨y, hy⟩ : ∃ y, y = b0 ||| b2 := ⟨_, rfl⟩
      have a9 : IntKind.u8.wrap ((2 : Int) ^ r) = (b2.toNat : Int) := by rw [hb2]; exact or_wrap_pow hr8
      have a10 : bits .or .u8 (b0.toNat : Int) (b2.toNat : Int) = (y.toNat : Int) := by
        have h1 := b0.toNat_lt
        have h2 := b2.toNat_lt
        rw [hy, UInt8.toNat_or, u8_or_nat _ _ (by omega) (by omega)]
      have HB0 := Lib.hid hb0'
      have HB2 := Lib.hid hb2
      have HY := Lib.hid hy
      clear hb0' hb2 hy
      have k1r : wr.cell? ⟨g, 1, none⟩ = some (.slice (some ⟨b, 0, none⟩) L L) := by
        have h1 := (hKr.block g (Nat.lt_of_lt_of_le hgl hu1.size) (by intro h; exact FilAt.ne HF.out h)).trans ((hu1.block g hgl).trans hhd)
        exact blk_cell h1 1
      have hgr : g < wr.heap.size := Nat.lt_of_lt_of_le (Nat.lt_of_lt_of_le hgl hu1.size) hKr.size
      go_wp2_with fail
      apply Rg.region_own 14 (fun W => W.cell? ⟨g, 1, none⟩ = some (.slice (some ⟨b, 0, none⟩) L L) ∧ Rg.Keeps (fun x => x = b) w1 W) (fun x => x = b) (BegE b l) rfl (by kernel_rfl) (by kernel_rfl) (by rintro x rfl; exact hbr.lt) hbr (fun w1 w2 h hs => h.sta hs (.inr rfl)) (fun w2 hK => ⟨(World.cell?_of_block (a := ⟨g, 1, none⟩) (hK.block g hgr (by intro h; exact FilAt.ne HF.out h))).trans k1r, KeepsT hKr (KeepsT (Rg.Keeps.of_up (Up.refl _).drew) hK)⟩)
      · intro QN hQN
        iterate 7 (apply Rg.RK.ok; (· intro vs w1 hS; go_simp; with_reducible rfl); (· rfl); simp only [Act.put, List.setIfInBounds_toArray, List.set_cons_zero, List.set_cons_succ, Nat.reduceAdd])
        apply Rg.RK.okU [14]
        · intro vs w1 hS hf
          have hb1 : BegE b l w1 := hf.1
          have hb2 := hb1.cell hpl
          rw [← HB0.out] at hb2
          have hb3 : w1.cell? ⟨b, j, none⟩ = some (.int .u8 (b0.toNat : Int)) := hb2
          clear hb2
          go_simp
          with_reducible rfl
        · rfl
        simp only [Act.put, List.setIfInBounds_toArray, List.set_cons_zero, List.set_cons_succ, Nat.reduceAdd]
        iterate 4 (apply Rg.RK.ok; (· intro vs w1 hS; go_simp; with_reducible rfl); (· rfl); simp only [Act.put, List.setIfInBounds_toArray, List.set_cons_zero, List.set_cons_succ, Nat.reduceAdd])
        (apply Rg.RK.ok; (· intro vs w1 hS; go_simp; with_reducible rfl); (· rfl); simp only [Act.put, List.setIfInBounds_toArray, List.set_cons_zero, List.set_cons_succ, Nat.reduceAdd])
        apply Rg.RK.opD (fun vs W => BegE b (l.set j y) W) (fun vs g => g = b) [14] [14] [] (fun _ _ _ => ⟨rfl, rfl⟩)
        · exact fun vs W1 W2 h hs => h.sta hs (.inr rfl)
        · rfl
        · intro vs w2 hK hS hf K hKK
          have hb1 : BegE b l w2 := hf.1
          have r0 := hb1.cell hpl
          have r1 := hb1.free (j := j)
          have r2 := hb1.set hpl y
          rw [show bv y = .int .u8 (y.toNat : Int) from rfl] at r2
          have r3 := setc_keeps w2 w2 b j (.int .u8 (y.toNat : Int)) (Rg.Keeps.refl _ _)
          go_simp
          refine hKK.out undef _ r2 (Keeps.weak r3 fun x hx => ⟨14, List.mem_singleton.2 rfl, hx⟩) (fun x hx => ⟨?_, .inr ⟨14, List.mem_singleton.2 rfl, hx⟩⟩)
          have hxx : x = b := hx
          rw [hxx]; exact r2.lt
        simp only [Act.put, List.setIfInBounds_toArray, List.set_cons_zero, List.set_cons_succ, Nat.reduceAdd]
        apply Rg.RK.fin [13]
        intro vs w8 hK hS hf
        obtain ⟨hbn, -⟩ := hf
        refine hQN.out _ _ ?_
        clear hQN
        have hbn2 : BegE b (l.set j y) w8 := hbn
        have e : setP l p = l.set j y := by
          unfold setP
          rw [← HJ.out, ← HR.out, ← HB0.out, ← HB2.out, ← HY.out]
        rw [← e, ← HSN.out] at hbn2
        clear hbn hK hbr
        go_wp2_with fail
        go_roundw
        case rel => exact ⟨t + 1, by go_num, by omega, hbn2, hS.2⟩
        case measure => simp [intOf] <;> omega
      · kernel_rfl
    · have i1 : ¬ (t : Int) < 7 := by omega
      obtain rfl : t = 7 := by omega
      have hall : ps.take 7 = ps := List.take_of_length_le (by have := HKL.out; omega)
      rw [hall] at hbr
      go_wp2_with fail
      have hlen := setsP_len ps bs
      have hK2 := KeepsT hK0 hKr
      exact bodyPost_end (results_none rfl _ _ _) rfl ⟨rfl, ⟨by rw [hlen]; exact (hK2.block g hgl (by intro h; exact FilAt.ne HF.out h)).trans HF.out.1, hbr, HF.out.2.2⟩, hK2⟩
set_option maxRecDepth 100000 in
set_option maxHeartbeats 3200000 in
theorem fbytes_any (B g b : Nat) (bs : List UInt8) (w : World) (hf : FilAt B g b bs w) (hb1 : bs.length ≤ 3000) :
    Calls Tryz.prog 46 #[.pointer (some ⟨g, 0, none⟩)] w fun e w' => ∃ A' n' c', e = .returned (.slice A' n' c') ∧ OwnB w' w.heap.size A' n' c' (blmB bs) ∧ Up w w' := by
  obtain ⟨L, hL⟩ : ∃ L, L = bs.length := ⟨_, rfl⟩
  have hhd : w.heap[g]? = some (.cells #[.int .i64 7, .slice (some ⟨b, 0, none⟩) L L] 113 (0, 0)) := by rw [hL]; exact hf.1
  have hbe := hf.2.1
  have hN : (numB 7).length = 1 := by decide +kernel
  obtain ⟨M, hM⟩ : ∃ M, M = (numB 7 ++ numB L).length := ⟨_, rfl⟩
  have hM2 : M ≤ 11 := by have := numB_ten (n := L) (by omega); rw [hM, List.length_append, hN]; omega
  have hMv : blmB bs = (numB 7 ++ numB L) ++ bs := by unfold blmB; rw [hL]
  have hS : ∀ W, Up w W → (W.cell? ⟨g, 0, none⟩ = some (.int .i64 7) ∧ W.cell? ⟨g, 1, none⟩ = some (.slice (some ⟨b, 0, none⟩) L L)) ∧ Up w W := fun W h => ⟨⟨blk_cell (blk_up h hhd) 0, blk_cell (blk_up h hhd) 1⟩, h⟩
  have HMV := Lib.hid hMv
  have HM := Lib.hid hM
  have HBE := Lib.hid hbe
  have HLL := Lib.hid hL
  have hL2 : L ≤ 3000 := by omega
  have y1 : IntKind.u64.wrap 7 = 7 := by decide
  have y2 : IntKind.u64.wrap (L : Int) = (L : Int) := by rw [IntKind.wrap_u64]; omega
  clear hMv hM hbe hL hb1 hN
  go_enter Tryz.func46, Tryz.ntmps46
  go_wp2_with fail
  apply Rg.region_up _ (by kernel_rfl) (by kernel_rfl) hS
  · intro QN hQN
    iterate 5 (apply Rg.RK.ok; (· intro vs w1 hS; go_simp; with_reducible rfl); (· rfl); simp only [Act.put, List.setIfInBounds_toArray, List.set_cons_zero, List.set_cons_succ, Nat.reduceAdd])
    apply Rg.RK.opn (Sl 1 (bvs (numB 7))) Rg.ob [] []
    · exact fun v W1 W2 h hs => h.sta hs
    · rfl
    · intro vs w1 hK hS hf K hKK
      go_simp
      have hcall := put_any none 0 0 [] 7 w1 Rd.empty (by omega) (by omega)
      refine hcall.mono ?_
      rintro e w2 ⟨A1, n1, c1, rfl, ho1, hu2⟩
      (try rw [List.nil_append] at ho1)
      exact hKK.out _ _ (Sl.own ho1) (Rg.Keeps.of_up hu2) (own_row ho1)
    simp only [Act.put, List.setIfInBounds_toArray, List.set_cons_zero, List.set_cons_succ, Nat.reduceAdd]
    iterate 6 (apply Rg.RK.ok; (· intro vs w1 hS; go_simp; with_reducible rfl); (· rfl); simp only [Act.put, List.setIfInBounds_toArray, List.set_cons_zero, List.set_cons_succ, Nat.reduceAdd])
    apply Rg.RK.opn (fun v W1 => W1.ownsRow w.heap.size 5 1 v M (bvs (numB 7 ++ numB L))) Rg.ob [5] []
    · exact fun v W1 W2 h hs => row_sta h hs
    · rfl
    · intro vs w1 hK hS hf K hKK
      obtain ⟨hsl, -⟩ := hf
      obtain ⟨A1, n1, c1, hv, hnc, hrd⟩ := hsl
      have hbl := hrd.blen
      have HBL := Lib.hid hbl
      clear hbl
      (try dsimp only at hKK ⊢)
      rw [hv] at hKK ⊢
      go_simp
      have hn1 : n1 ≤ 1099511627776 := by
        have h1 := HBL.out
        have h7 : (numB 7).length = 1 := by decide +kernel
        omega
      have hcall := put_any A1 n1 c1 (numB 7) L w1 hrd hn1 (by omega)
      refine hcall.mono ?_
      rintro e w2 ⟨A2, n2, c2, rfl, ho1, hu2⟩
      have hn2 := ho1.len
      rw [← HM.out] at hn2
      subst hn2
      exact hKK.out _ _ (own_base ho1 hS.2.size) (Rg.Keeps.of_up hu2) (own_row ho1)
    simp only [Act.put, List.setIfInBounds_toArray, List.set_cons_zero, List.set_cons_succ, Nat.reduceAdd]
    iterate 4 (apply Rg.RK.ok; (· intro vs w1 hS; go_simp; with_reducible rfl); (· rfl); simp only [Act.put, List.setIfInBounds_toArray, List.set_cons_zero, List.set_cons_succ, Nat.reduceAdd])
    apply Rg.RK.opn (fun v W1 => W1.ownsRow w.heap.size 5 1 v (M + L) (bvs (blmB bs))) Rg.ob [12] [12]
    · exact fun v W1 W2 h hs => row_sta h hs
    · rfl
    · intro vs w4 hK hS hf K hKK
      obtain ⟨hr, -⟩ := hf
      have hrd := (HBE.out.up hS.2).rd
      rw [← HLL.out] at hrd
      refine wp_append_rd _ _ _ bytesT rfl rfl rfl hr hrd (bvs_one _) (by omega) (by omega) hS.2.size fun v' w5 ho' hg' hat' => ?_
      rw [← bvs_append, ← HMV.out] at ho'
      exact hKK.out _ _ ho' (keeps_grown hr hg' fun g hg => ⟨12, List.mem_singleton.2 rfl, hg⟩) (own_grown hr ho' hat' fun g hg => ⟨12, List.mem_singleton.2 rfl, hg⟩)
    simp only [Act.put, List.setIfInBounds_toArray, List.set_cons_zero, List.set_cons_succ, Nat.reduceAdd]
    apply Rg.RK.opD (fun vs W => vs 18 = vs 17) (fun _ _ => False) [] [] [17] (fun vs vs' h => by rw [h 18 (by simp), h 17 (by simp)]; exact ⟨rfl, rfl⟩)
    · exact fun _ _ _ h _ => h
    · rfl
    · intro vs w1 hK hS _ K hKK
      go_simp
      refine hKK.out _ _ ?_ (Rg.Keeps.refl _ _) (fun g hg => hg.elim)
      rw [Rg.upd_same, Rg.upd_ne _ _ (by decide)]
    simp only [Act.put, List.setIfInBounds_toArray, List.set_cons_zero, List.set_cons_succ, Nat.reduceAdd]
    apply Rg.RK.fin [17, 18]
    intro vs w8 hK hS hf
    obtain ⟨h17, h18, -⟩ := hf
    have h17' : w8.ownsRow w.heap.size 5 1 (vs 17) (M + L) (bvs (blmB bs)) := h17
    obtain ⟨A3, c3, hv3⟩ := own_form h17'
    have hv18 : vs 18 = .slice A3 (M + L) c3 := Eq.trans h18 hv3
    rw [hv3] at h17'
    refine hQN.out _ _ ?_
    clear hQN
    (try dsimp only)
    rw [hv18]
    clear hv18 h18 h17 hv3
    go_wp2_with fail
    go_ret
    exact ⟨A3, M + L, c3, rfl, h17', hS.2⟩
  · kernel_rfl
set_option maxRecDepth 100000 in
set_option maxHeartbeats 3200000 in
theorem filter_any (A : Option Addr) (n c : Nat) (l : List It) (w : World) (hr : Rd w w.heap.size 5 A n (itcs l)) (hn : n ≤ 2000) :
    Calls Tryz.prog 45 #[.slice A n c] w fun e w' => ∃ g b, e = .returned (.pointer (some ⟨g, 0, none⟩)) ∧ FilAt w.heap.size g b (filB l) w' ∧ Up w w' := by
  have HL := Lib.hid hr.ilen
  have hnl : newF n = filK l 0 := by unfold filK; rw [hr.ilen]; rfl
  have HN := Lib.hid hnl
  have hfl := filK_len l
  have HFL := Lib.hid hfl
  clear hnl hfl
  go_enter Tryz.func45, Tryz.ntmps45
  go_wp2_with fail
  refine (bnew_any n w hn).mono ?_
  rintro e w1 ⟨g, b, rfl, hf, hu1⟩
  rw [HN.out] at hf
  have hg1 := hf.2.2.1
  go_wp2_with fail
  go_loopw [15] (fun i wr => ∃ k : Nat, i = .int .i64 (k : Int) ∧ k ≤ n ∧ FilAt w.heap.size g b (filK l k) wr ∧ Up w wr) (fun i _ => n - (intOf i).toNat)
  case atStart => exact ⟨0, rfl, by omega, hf, hu1⟩
  case round =>
    obtain ⟨k, rfl, hk, hfr, hur⟩ := hrel
    clear hf hu1
    by_cases hlt : k < n
    · have i1 : (k : Int) < (n : Int) := by omega
      obtain ⟨b1, o1, x, rfl, hb1, hik, c0, c1, c2, c3, c4⟩ := (hr.stay (Nat.le_refl _) hur).item_at hlt
      have hkl : k < l.length := by have := HL.out; omega
      have hx : l[k] = x := by rw [List.getElem?_eq_getElem hkl] at hik; injection hik
      have hsn := filK_succ l k hkl
      rw [hx] at hsn
      have HSN := Lib.hid hsn
      have hlen := HFL.out k
      have HLN := Lib.hid hlen
      clear hik hx hsn hlen
      go_wp2_with fail
      refine (key_any x _).mono ?_
      rintro e w2 ⟨A2, n2, d2, rfl, ho2, hu2⟩
      have hu12 : Up wr w2 := ((Up.refl wr).alloc _).trans hu2
      have hkr := Rd.own ho2
      have hkn : n2 ≤ 1000 := by have := hkr.blen; rw [this]; simp [keyB, eightB_len]
      have hadd := fadd_any w.heap.size g b (filK l k) A2 n2 d2 (keyB x) w2 (hfr.up hu12) hkr hkn (by rw [HLN.out]; omega) (by rw [HLN.out]; have := HL.out; omega)
      rw [← HSN.out] at hadd
      have HA := Lib.hid hadd
      have hgb := hfr.2.2.2.1
      have hur2 := hur.trans hu12
      clear hadd ho2 hkr hfr c0 c1 c2 c3 c4 hu2
      go_wp2_with fail
      refine HA.out.mono ?_
      rintro e w3 ⟨rfl, hf3, hK3⟩
      clear HA
      go_wp2_with fail
      go_roundw
      case rel => exact ⟨k + 1, by go_num, by omega, hf3, keepsUpX hur2 hgb hK3⟩
      case measure => simp [intOf]; omega
    · have i1 : ¬ (k : Int) < (n : Int) := by omega
      obtain rfl : k = n := by omega
      have hall : filK l k = filB l := by unfold filB; rw [HL.out]
      rw [hall] at hfr
      go_wp2_with fail
      go_ret
      exact ⟨g, rfl, ⟨b, hfr⟩, hur⟩
end Go.Proofs.YtfmjgkfblejknaaGreat

/-
  The walks of the document's Hash and its filter.
-/
namespace Go.Proofs.YtfmjgkfblejknaaGreat
open Go.RowKit
set_option linter.unusedVariables false
set_option linter.unusedSimpArgs false

theorem getD_tx (l : List UInt8) {k : Nat} (hk : k < (tx l).size) : (tx l)[k] = l.getD k 0 := by
  have h : k < (tx l).data.size := hk
  show (tx l).data[k] = _
  have h2 : (tx l).data.toList = l := tx_list l
  conv => rhs; rw [← h2]
  simp only [List.getD, Array.getElem?_toList, Array.getElem?_eq_getElem h, Option.getD_some]
set_option maxRecDepth 100000 in
set_option maxHeartbeats 1600000 in
theorem rhash_any (l : List UInt8) (w : World) (hn : l.length ≤ 1000000) :
    Calls Tryz.prog 83 #[.string (tx l)] w fun e w' => e = .returned (.int .u64 (hashI l)) ∧ w = w' := by
  have hz := tx_size l
  obtain ⟨s, hs⟩ : ∃ s, s = tx l := ⟨_, rfl⟩
  have hg : ∀ (k : Nat) (h : k < s.size), s[k] = l.getD k 0 := by subst hs; exact fun k h => getD_tx l h
  rw [← hs] at hz ⊢
  have HZ := Lib.hid hz
  have HG := Lib.hid hg
  have hsb : s.size ≤ 1000000 := by omega
  clear hs hz hg
  go_enter Tryz.func83, Tryz.ntmps83
  go_wp2_with fail
  go_loop [3, 4] (fun q i => ∃ (k : Nat) (h : Int), i = .int .i64 (k : Int) ∧ q = .int .u64 h ∧ k ≤ s.size ∧ Hid (hashI (l.take k) = h)) (fun _ i => s.size - (intOf i).toNat)
  case atStart => exact ⟨0, _, rfl, rfl, by omega, rfl⟩
  case round =>
    obtain ⟨k, h, rfl, rfl, hk, hH⟩ := hrel
    by_cases hlt : k < s.size
    · have hkl : k < l.length := by have := HZ.out; omega
      have hgd := HG.out k hlt
      have hs := hashI_snoc l k hkl
      rw [hH.out, ← bvs_at hkl] at hs
      generalize l.getD k 0 = b0 at hgd hs
      have HS := Lib.hid hs
      have hm : IntKind.u64.wrap (bits .xor .u64 h (b0.toNat : Int) * 1099511628211) = fnvI h b0 := rfl
      have hm2 : (bits .xor .u64 h (b0.toNat : Int) * 1099511628211) % 18446744073709551616 = fnvI h b0 := by rw [← hm, IntKind.wrap_u64]
      have hb8 := b0.toNat_lt
      have hb6 : (b0.toNat : Int) % 18446744073709551616 = (b0.toNat : Int) := by omega
      have i1 : (k : Int) < (s.size : Int) := by omega
      clear hs
      go_wp2_with fail
      go_round
      case rel => exact ⟨k + 1, _, by go_num, rfl, by omega, HS⟩
      case measure => simp [intOf]; omega
    · have hkn : k = l.length := by have := HZ.out; omega
      have i1 : ¬ (k : Int) < (s.size : Int) := by omega
      have hf := hH.out
      rw [hkn, List.take_of_length_le (Nat.le_refl _)] at hf
      have HF := Lib.hid hf
      clear hf hkn
      go_wp2_with fail
      go_ret
      refine ⟨?_, rfl⟩
      show Ending.returned (.int .u64 h) = _
      rw [HF.out]
/-- the document's filter: its head and its bits -/
def RFil (B g b : Nat) (bs : List UInt8) (w : World) : Prop :=
  w.heap[g]? = some (.cells #[.int .i64 7, .slice (some ⟨b, 0, none⟩) bs.length bs.length] 94 (0, 0)) ∧ BegE b bs w ∧ B ≤ g ∧ B ≤ b ∧ g = b + 1
theorem RFil.up {B g b : Nat} {bs : List UInt8} {w w' : World} (h : RFil B g b bs w) (hu : Up w w') : RFil B g b bs w' := ⟨blk_up hu h.1, h.2.1.up hu, h.2.2⟩
theorem RFil.ne {B g b : Nat} {bs : List UInt8} {w : World} (h : RFil B g b bs w) : g ≠ b := by have := h.2.2.2.2; omega
set_option maxRecDepth 100000 in
set_option maxHeartbeats 1600000 in
theorem rnew_any (n : Nat) (w : World) (hn : n ≤ 2000) :
    Calls Tryz.prog 26 #[.int .i64 (n : Int), .int .i64 10] w fun e w' => ∃ g b, e = .returned (.pointer (some ⟨g, 0, none⟩)) ∧ RFil w.heap.size g b (newF n) w' ∧ Up w w' := by
  obtain ⟨m, hm⟩ : ∃ m : Nat, m = (max (n * 10) 64 + 7) / 8 := ⟨_, rfl⟩
  have hm2 : m ≤ 2501 := by omega
  have hnf : newF n = List.replicate m 0 := by unfold newF; rw [hm]
  have hx1 : max (1 : Int) 7 = 7 := by decide
  have hx2 : (max 64 ((n : Int) * 10) + 7) / 8 = (m : Int) := by omega
  have hmk : ∀ W, (Instr.makeSlice 22 (.int .i64 (m : Int)) (.int .i64 (m : Int))).run Tryz.prog W = .ok (.slice (some ⟨W.heap.size, 0, none⟩) m m) (W.alloc (.cells (zb m) 5)) := fun W => by
    have h := make_b W .i64 .i64 (m : Int) (by omega) (by omega)
    rwa [Int.toNat_natCast] at h
  have HNF := Lib.hid hnf
  clear hm hnf
  go_enter Tryz.func26, Tryz.ntmps26
  go_wp2_with fail
  go_ret
  refine ⟨w.heap.size + 1, w.heap.size, rfl, ⟨?_, ?_, by omega, by omega, by omega⟩, ((Up.refl _).alloc _).alloc _⟩
  · have h := heap_alloc_new (w.alloc (.cells (zb m) 5)) (.cells #[.int .i64 7, .slice (some ⟨w.heap.size, 0, none⟩) m m] 94)
    rw [World.size_alloc] at h
    rw [HNF.out, List.length_replicate]
    exact h
  · rw [HNF.out]
    exact (zb_beg w m).up ((Up.refl _).alloc _)
set_option maxRecDepth 100000 in
set_option maxHeartbeats 1600000 in
theorem rplace_any (B g b : Nat) (bs : List UInt8) (key : List UInt8) (i : Nat) (w : World) (hf : RFil B g b bs w) (hn : key.length ≤ 1000000) (hi : i ≤ 100) (hb0 : 0 < bs.length) (hb1 : bs.length ≤ 3000) :
    Calls Tryz.prog 58 #[.pointer (some ⟨g, 0, none⟩), .string (tx key), .int .i64 (i : Int)] w fun e w' => e = .returned (.int .i64 (placeN (hashI key) i (bs.length * 8) : Int)) ∧ w = w' := by
  obtain ⟨h, hh⟩ : ∃ h, h = hashI key := ⟨_, rfl⟩
  have hbd := hashI_bd key
  rw [← hh] at hbd
  have hha := rhash_any key w hn
  rw [← hh] at hha ⊢
  obtain ⟨L, hL⟩ : ∃ L, L = bs.length := ⟨_, rfl⟩
  obtain ⟨M, hM⟩ : ∃ M, M = L * 8 := ⟨_, rfl⟩
  have k1 : w.cell? ⟨g, 1, none⟩ = some (.slice (some ⟨b, 0, none⟩) L L) := by rw [hL]; exact blk_cell hf.1 1
  rw [← hL, ← hM]
  have hm1 : 8 * (L : Int) = (M : Int) := by omega
  have hM0 : 0 < M := by omega
  have hM1 : M ≤ 24000 := by omega
  obtain ⟨pp, hpp⟩ : ∃ pp, pp = placeN h i M := ⟨_, rfl⟩
  have hplt := placeN_lt h i hM0
  rw [← hpp] at hplt ⊢
  have hpv : ((IntKind.u32.wrap (IntKind.u32.wrap h + IntKind.u32.wrap ((i : Int) * IntKind.u32.wrap (h / 4294967296)))) % (M : Int)) = (pp : Int) := by
    rw [hpp]; unfold placeN
    rw [Int.toNat_of_nonneg (Int.emod_nonneg _ (by omega))]
  rw [IntKind.wrap_u32, IntKind.wrap_u32, IntKind.wrap_u32, IntKind.wrap_u32] at hpv
  have hhi : h / 4294967296 % 4294967296 = h / 4294967296 := by omega
  rw [hhi] at hpv
  simp only [Int.emod_add_emod, Int.add_emod_emod] at hpv
  have hw : IntKind.i64.wrap (pp : Int) = (pp : Int) := IntWalk.i64_in _ (by omega)
  have hkc : (i : Int) % 4294967296 = (i : Int) := by omega
  have hMw : IntKind.u64.wrap (M : Int) = (M : Int) := by rw [IntKind.wrap_u64]; omega
  have HPP := Lib.hid hpp
  have HHA := Lib.hid hha
  clear hhi hpp hh hha hf hL hM hb0 hb1
  go_enter Tryz.func58, Tryz.ntmps58
  go_wp2_with fail
  refine HHA.out.mono ?_
  rintro e w1 ⟨rfl, rfl⟩
  go_wp2_with fail
  go_ret
  exact ⟨rfl, rfl⟩
theorem keyP_at (key : List UInt8) (k m t : Nat) (h : t < k) : (keyP key k m)[t]? = some (placeN (hashI key) t m) := by simp [keyP, h]
set_option maxRecDepth 100000 in
set_option maxHeartbeats 3200000 in
theorem radd_any (B g b : Nat) (bs : List UInt8) (key : List UInt8) (w : World) (hf : RFil B g b bs w) (hn : key.length ≤ 1000000) (hb0 : 0 < bs.length) (hb1 : bs.length ≤ 3000) :
    Calls Tryz.prog 27 #[.pointer (some ⟨g, 0, none⟩), .string (tx key)] w fun e w' => e = .returned (.tuple #[]) ∧ RFil B g b (addF bs key) w' ∧ Rg.Keeps (fun x => x = b) w w' := by
  have hkl := keyP_len key 7 (bs.length * 8)
  have hkt : ∀ p ∈ keyP key 7 (bs.length * 8), p < bs.length * 8 := fun p hp => keyP_lt (by omega) hp
  have hfin : addF bs key = setsP bs (keyP key 7 (bs.length * 8)) := rfl
  rw [hfin]
  have hat := fun t h => keyP_at key 7 (bs.length * 8) t h
  have hpl : ∀ W (t : Nat) (l : List UInt8), l.length = bs.length → t < 7 → RFil B g b l W → Calls Tryz.prog 58 #[.pointer (some ⟨g, 0, none⟩), .string (tx key), .int .i64 (t : Int)] W fun e w' => e = .returned (.int .i64 (placeN (hashI key) t (bs.length * 8) : Int)) ∧ W = w' := fun W t l hl ht h => by
    have h9 := rplace_any B g b l key t W h hn (by omega) (by omega) (by omega)
    rwa [hl] at h9
  generalize keyP key 7 (bs.length * 8) = ps at *
  obtain ⟨L, hL⟩ : ∃ L, L = bs.length := ⟨_, rfl⟩
  have hhd : w.heap[g]? = some (.cells #[.int .i64 7, .slice (some ⟨b, 0, none⟩) L L] 94 (0, 0)) := by rw [hL]; exact hf.1
  rw [← hL] at hkt hb1 hb0 hat hpl
  have hbl := hf.2.1.lt
  have hgl := (Array.getElem?_eq_some_iff.1 hhd).1
  have HPL := Lib.hid hpl
  have HAT := Lib.hid hat
  have HKL := Lib.hid hkl
  have HKT := Lib.hid hkt
  have HF := Lib.hid hf
  have HLL := Lib.hid hL
  have hB0 : BegE b (setsP bs (ps.take 0)) w := hf.2.1
  clear hpl hkl hkt hfin hf hL hat
  go_enter Tryz.func27, Tryz.ntmps27
  go_wp2_with fail
  go_loopw [4] (fun i wr => ∃ t : Nat, i = .int .i64 (t : Int) ∧ t ≤ 7 ∧ BegE b (setsP bs (ps.take t)) wr ∧ Rg.Keeps (fun x => x = b) w wr) (fun i _ => 7 - (intOf i).toNat)
  case atStart => exact ⟨0, rfl, by omega, hB0, Rg.Keeps.refl _ _⟩
  case round =>
    obtain ⟨t, rfl, ht, hbr, hKr⟩ := hrel
    have hdr : wr.heap[g]? = some (.cells #[.int .i64 7, .slice (some ⟨b, 0, none⟩) L L] 94 (0, 0)) := (hKr.block g hgl (by intro h; exact RFil.ne HF.out h)).trans hhd
    have k0r := blk_cell hdr 0
    have k1r := blk_cell hdr 1
    simp only [List.getElem?_toArray, List.getElem?_cons_zero, List.getElem?_cons_succ] at k0r k1r
    by_cases hlt : t < 7
    · have i1 : (t : Int) < 7 := by omega
      have hlen := setsP_len (ps.take t) bs
      have hcall := HPL.out wr t (setsP bs (ps.take t)) (by rw [hlen]; exact HLL.out.symm) hlt ⟨by rw [hlen, ← HLL.out]; exact hdr, hbr, HF.out.2.2⟩
      have hp := HAT.out t hlt
      obtain ⟨p, hpd⟩ : ∃ p, p = placeN (hashI key) t (L * 8) := ⟨_, rfl⟩
      rw [← hpd] at hcall hp
      have HCALL := Lib.hid hcall
      have hpM := HKT.out p (List.mem_of_getElem? hp)
      have htk : ps.take (t + 1) = ps.take t ++ [p] := by
        obtain ⟨h1, h2⟩ := List.getElem?_eq_some_iff.1 hp
        rw [List.take_succ_eq_append_getElem h1, h2]
      have hsn : setsP bs (ps.take (t + 1)) = setP (setsP bs (ps.take t)) p := by rw [htk, setsP_snoc]
      generalize setsP bs (ps.take t) = l at *
      have hlL : l.length = L := by rw [hlen]; exact HLL.out.symm
      have HSN := Lib.hid hsn
      have HLN := Lib.hid hlL
      clear hp htk hlen hsn hlL hpd hcall
      have hpl : p / 8 < l.length := by have := HLN.out; omega
      obtain ⟨j, hj⟩ : ∃ j, j = p / 8 := ⟨_, rfl⟩
      obtain ⟨r, hr⟩ : ∃ r, r = p % 8 := ⟨_, rfl⟩
      have hr8 : r < 8 := by omega
      have a3 : (p : Int) / 8 = (j : Int) := by omega
      have a4 : (p : Int) % 8 = (r : Int) := by omega
      rw [← hj] at hpl
      have hjL : j < L := by have := HLN.out; omega
      have hjI : (j : Int) < (L : Int) := by omega
      have a2 : IntKind.i64.wrap (p : Int) = (p : Int) := IntWalk.i64_in _ (by omega)
      have a5 : Int.tdiv (p : Int) 8 = (j : Int) := by rw [Int.tdiv_eq_ediv_of_nonneg (by omega)]; exact a3
      have a6 : Int.tmod (p : Int) 8 = (r : Int) := by rw [Int.tmod_eq_emod_of_nonneg (by omega)]; exact a4
      have a7 : IntKind.i64.wrap (j : Int) = (j : Int) := IntWalk.i64_in _ (by omega)
      have a8 : IntKind.i64.wrap (r : Int) = (r : Int) := IntWalk.i64_in _ (by omega)
      have HJ := Lib.hid hj
      have HR := Lib.hid hr
      clear hj hr
      obtain ⟨b0, hb0'⟩ : ∃ b0, b0 = l.getD j 0 := ⟨_, rfl⟩
      obtain ⟨b2, hb2⟩ : ∃ b2, b2 = UInt8.ofNat (2 ^ r) := ⟨_, rfl⟩
      obtain ⟨y, hy⟩ : ∃ y, y = b0 ||| b2 := ⟨_, rfl⟩
      have a9 : IntKind.u8.wrap ((2 : Int) ^ r) = (b2.toNat : Int) := by rw [hb2]; exact or_wrap_pow hr8
      have a10 : bits .or .u8 (b0.toNat : Int) (b2.toNat : Int) = (y.toNat : Int) := by
        have h1 := b0.toNat_lt
        have h2 := b2.toNat_lt
        rw [hy, UInt8.toNat_or, u8_or_nat _ _ (by omega) (by omega)]
      have HB0 := Lib.hid hb0'
      have HB2 := Lib.hid hb2
      have HY := Lib.hid hy
      clear hb0' hb2 hy
      have hgr : g < wr.heap.size := Nat.lt_of_lt_of_le hgl hKr.size
      go_wp2_with fail
      refine HCALL.out.mono ?_
      rintro e w5 ⟨rfl, rfl⟩
      go_wp2_with fail
      apply Rg.region_own 20 (fun W => W.cell? ⟨g, 1, none⟩ = some (.slice (some ⟨b, 0, none⟩) L L) ∧ Rg.Keeps (fun x => x = b) w W) (fun x => x = b) (BegE b l) rfl (by kernel_rfl) (by kernel_rfl) (by rintro x rfl; exact hbr.lt) hbr (fun w1 w2 h hs => h.sta hs (.inr rfl)) (fun w2 hK => ⟨(World.cell?_of_block (a := ⟨g, 1, none⟩) (hK.block g hgr (by intro h; exact RFil.ne HF.out h))).trans k1r, KeepsT hKr (KeepsT (Rg.Keeps.of_up (Up.refl _).drew) hK)⟩)
      · intro QN hQN
        iterate 13 (apply Rg.RK.ok; (· intro vs w1 hS; go_simp; with_reducible rfl); (· rfl); simp only [Act.put, List.setIfInBounds_toArray, List.set_cons_zero, List.set_cons_succ, Nat.reduceAdd])
        apply Rg.RK.okU [20]
        · intro vs w1 hS hf
          have hb1 : BegE b l w1 := hf.1
          have hb2 := hb1.cell hpl
          rw [← HB0.out] at hb2
          have hb3 : w1.cell? ⟨b, j, none⟩ = some (.int .u8 (b0.toNat : Int)) := hb2
          clear hb2
          go_simp
          with_reducible rfl
        · rfl
        simp only [Act.put, List.setIfInBounds_toArray, List.set_cons_zero, List.set_cons_succ, Nat.reduceAdd]
        iterate 5 (apply Rg.RK.ok; (· intro vs w1 hS; go_simp; with_reducible rfl); (· rfl); simp only [Act.put, List.setIfInBounds_toArray, List.set_cons_zero, List.set_cons_succ, Nat.reduceAdd])
        apply Rg.RK.opD (fun vs W => BegE b (l.set j y) W) (fun vs g => g = b) [20] [20] [] (fun _ _ _ => ⟨rfl, rfl⟩)
        · exact fun vs W1 W2 h hs => h.sta hs (.inr rfl)
        · rfl
        · intro vs w2 hK hS hf K hKK
          have hb1 : BegE b l w2 := hf.1
          have r0 := hb1.cell hpl
          have r1 := hb1.free (j := j)
          have r2 := hb1.set hpl y
          rw [show bv y = .int .u8 (y.toNat : Int) from rfl] at r2
          have r3 := setc_keeps w2 w2 b j (.int .u8 (y.toNat : Int)) (Rg.Keeps.refl _ _)
          go_simp
          refine hKK.out undef _ r2 (Keeps.weak r3 fun x hx => ⟨20, List.mem_singleton.2 rfl, hx⟩) (fun x hx => ⟨?_, .inr ⟨20, List.mem_singleton.2 rfl, hx⟩⟩)
          have hxx : x = b := hx
          rw [hxx]; exact r2.lt
        simp only [Act.put, List.setIfInBounds_toArray, List.set_cons_zero, List.set_cons_succ, Nat.reduceAdd]
        apply Rg.RK.fin [19]
        intro vs w8 hK hS hf
        obtain ⟨hbn, -⟩ := hf
        refine hQN.out _ _ ?_
        clear hQN
        have hbn2 : BegE b (l.set j y) w8 := hbn
        have e : setP l p = l.set j y := by
          unfold setP
          rw [← HJ.out, ← HR.out, ← HB0.out, ← HB2.out, ← HY.out]
        rw [← e, ← HSN.out] at hbn2
        clear hbn hK hbr
        go_wp2_with fail
        go_roundw
        case rel => exact ⟨t + 1, by go_num, by omega, hbn2, hS.2⟩
        case measure => simp [intOf] <;> omega
      · kernel_rfl
    · have i1 : ¬ (t : Int) < 7 := by omega
      obtain rfl : t = 7 := by omega
      have hall : ps.take 7 = ps := List.take_of_length_le (by have := HKL.out; omega)
      rw [hall] at hbr
      go_wp2_with fail
      have hlen := setsP_len ps bs
      exact bodyPost_end (results_none rfl _ _ _) rfl ⟨rfl, ⟨by rw [hlen, ← HLL.out]; exact hdr, hbr, HF.out.2.2⟩, hKr⟩
set_option maxRecDepth 100000 in
set_option maxHeartbeats 3200000 in
theorem rfbytes_any (B g b : Nat) (bs : List UInt8) (w : World) (hf : RFil B g b bs w) (hb1 : bs.length ≤ 3000) :
    Calls Tryz.prog 30 #[.pointer (some ⟨g, 0, none⟩)] w fun e w' => e = .returned (.string (tx (blmB bs))) ∧ Up w w' := by
  obtain ⟨L, hL⟩ : ∃ L, L = bs.length := ⟨_, rfl⟩
  have hhd : w.heap[g]? = some (.cells #[.int .i64 7, .slice (some ⟨b, 0, none⟩) L L] 94 (0, 0)) := by rw [hL]; exact hf.1
  have hbe := hf.2.1
  have hN : (numB 7).length = 1 := by decide +kernel
  have hN2 : (numB L).length ≤ 10 := numB_ten (by omega)
  have hMv : cc (cc (numB 7) (numB L)) bs = blmB bs := by unfold blmB cc; rw [hL]
  have hS : ∀ W, Up w W → (W.cell? ⟨g, 0, none⟩ = some (.int .i64 7) ∧ W.cell? ⟨g, 1, none⟩ = some (.slice (some ⟨b, 0, none⟩) L L)) ∧ Up w W := fun W h => ⟨⟨blk_cell (blk_up h hhd) 0, blk_cell (blk_up h hhd) 1⟩, h⟩
  have HMV := Lib.hid hMv
  have HBE := Lib.hid hbe
  have HLL := Lib.hid hL
  have hL2 : L ≤ 3000 := by omega
  have hbs : bs.length ≤ 3000 := hb1
  have y1 : IntKind.u64.wrap 7 = 7 := by decide
  have y2 : IntKind.u64.wrap (L : Int) = (L : Int) := by rw [IntKind.wrap_u64]; omega
  clear hMv hbe hL hb1
  go_enter Tryz.func30, Tryz.ntmps30
  go_wp2_with fail
  apply Rg.region_up _ (by kernel_rfl) (by kernel_rfl) hS
  · intro QN hQN
    iterate 5 (apply Rg.RK.ok; (· intro vs w1 hS; go_simp; with_reducible rfl); (· rfl); simp only [Act.put, List.setIfInBounds_toArray, List.set_cons_zero, List.set_cons_succ, Nat.reduceAdd])
    apply Rg.RK.call (.string (tx (numB 7))) []
    · rfl
    · intro vs w1 hK hS _ K hKK
      go_simp
      refine (rnum_any 7 w1 (by omega)).mono ?_
      rintro e w2 ⟨s1, rfl, hs1, hu1⟩
      rw [tx_of hs1.out]
      exact hKK.out _ hu1
    simp only [Act.put, List.setIfInBounds_toArray, List.set_cons_zero, List.set_cons_succ, Nat.reduceAdd]
    iterate 6 (apply Rg.RK.ok; (· intro vs w1 hS; go_simp; with_reducible rfl); (· rfl); simp only [Act.put, List.setIfInBounds_toArray, List.set_cons_zero, List.set_cons_succ, Nat.reduceAdd])
    apply Rg.RK.call (.string (tx (numB L))) []
    · rfl
    · intro vs w1 hK hS _ K hKK
      go_simp
      refine (rnum_any L w1 (by omega)).mono ?_
      rintro e w2 ⟨s1, rfl, hs1, hu1⟩
      rw [tx_of hs1.out]
      exact hKK.out _ hu1
    simp only [Act.put, List.setIfInBounds_toArray, List.set_cons_zero, List.set_cons_succ, Nat.reduceAdd]
    (apply Rg.RK.ok; (· intro vs w1 hS; go_simp; rw [if_neg (by simp [tx_size, cc_length]; omega), tx_append]); (· rfl); simp only [Act.put, List.setIfInBounds_toArray, List.set_cons_zero, List.set_cons_succ, Nat.reduceAdd])
    iterate 4 (apply Rg.RK.ok; (· intro vs w1 hS; go_simp; with_reducible rfl); (· rfl); simp only [Act.put, List.setIfInBounds_toArray, List.set_cons_zero, List.set_cons_succ, Nat.reduceAdd])
    apply Rg.RK.ok (v := .string (tx bs))
    · intro vs w1 hS
      have hrd := (HBE.out.up hS.2).rd
      rw [← HLL.out] at hrd
      exact exec_str rfl rfl hrd
    · rfl
    simp only [Act.put, List.setIfInBounds_toArray, List.set_cons_zero, List.set_cons_succ, Nat.reduceAdd]
    (apply Rg.RK.ok; (· intro vs w1 hS; go_simp; rw [if_neg (by simp [tx_size, cc_length]; omega), tx_append]); (· rfl); simp only [Act.put, List.setIfInBounds_toArray, List.set_cons_zero, List.set_cons_succ, Nat.reduceAdd])
    iterate 1 (apply Rg.RK.ok; (· intro vs w1 hS; go_simp; with_reducible rfl); (· rfl); simp only [Act.put, List.setIfInBounds_toArray, List.set_cons_zero, List.set_cons_succ, Nat.reduceAdd])
    apply Rg.RK.fin []
    intro vs w1 hK hS _
    refine hQN.out _ _ ?_
    clear hQN
    go_wp2_with fail
    go_ret
    refine ⟨?_, hS.2⟩
    rw [← HMV.out]
    rfl
  · kernel_rfl
end Go.Proofs.YtfmjgkfblejknaaGreat

/-
  The walk of block.Cut, whole: for every slice and every bound.
-/
namespace Go.Proofs.YtfmjgkfblejknaaGreat
open Go.RowKit Go.Shelf
set_option linter.unusedVariables false
set_option linter.unusedSimpArgs false
attribute [local go_sem] Oper.semAt_some

set_option maxRecDepth 100000 in
set_option maxHeartbeats 1000000 in
theorem clone_own (A : Option Addr) (n c : Nat) (l : List It) (w : World) (hr : Rd w w.heap.size 5 A n (itcs l)) (hn : n ≤ 1099511627776) :
    Calls Tryz.prog 68 #[.slice A n c] w fun e w' => ∃ A' c', e = .returned (.slice A' n c') ∧ OwnI w' w.heap.size A' n c' l ∧ Up w w' := by
  have hnil : ∀ W, (binOp .eql 23 (.slice A n c) (.slice none 0 0)).run Tryz.prog W = .ok (.bool A.isNone) W := fun W => Lib.run_eql_slice_nil W 23 37 A n c 0 0 Tryz.underlying23
  rcases A with _ | ad
  · have h0 : n = 0 := by
      rcases Nat.eq_zero_or_pos n with h | h
      · exact h
      · obtain ⟨b, o, e, _⟩ := hr.2 h
        cases e
    subst h0
    have hl : l = [] := List.eq_nil_of_length_eq_zero hr.ilen.symm
    subst hl
    rw [show (none : Option Addr).isNone = true from rfl] at hnil
    go_enter Tryz.func68, Tryz.ntmps68
    go_wp2_with fail
    go_ret
    exact ⟨none, 0, rfl, World.ownsRow_nil _ _ _ _, Up.refl _⟩
  · rw [show (some ad : Option Addr).isNone = false from rfl] at hnil
    have hrow := row_new w #[] 37 (base := w.heap.size) (sz := 5) (n := 0) (Nat.le_refl _) rfl (by omega)
    have hub : Up w (w.alloc (.cells #[] 37)) := (Up.refl w).alloc _
    have hr1 := hr.up hub
    go_enter Tryz.func68, Tryz.ntmps68
    go_wp2_with (at_builtin; refine wpList_append_rd _ itemsT hrow hr1 (itcs_one _) (by omega) (by omega) (by simp) rfl rfl rfl rfl ?_; intro v1 w1 hown1 hg1 hat1)
    obtain ⟨A1, c1, rfl⟩ := own_form hown1
    rw [Nat.zero_add, List.nil_append] at hown1
    rw [Nat.zero_add]
    go_ret
    exact ⟨A1, c1, rfl, hown1, hub.grown hg1 (fun k e => by simp only [Value.ownBlock, Option.some.injEq] at e; omega)⟩
/-- a row lies as it lay where its block does -/
theorem own_block {w w' : World} {base : Nat} {e : TypeId} {sz n : Nat} {v : Value} {xs : List Value} (h : w.ownsRow base e sz v n xs) (hb : ∀ (g : Nat) (cs : Array Value), w.heap[g]? = some (Obj.cells cs e (0, 0)) → w'.heap[g]? = w.heap[g]?) : w'.ownsRow base e sz v n xs := by
  refine ⟨h.1, ?_⟩
  rcases h.2 with h2 | ⟨g, cap, cur, hv, hg, hh, r⟩
  · exact .inl h2
  · exact .inr ⟨g, cap, cur, hv, hg, (hb g cur hh).trans hh, r⟩
theorem RwOwn.kept {w w' : World} {base : Nat} {rs : List Rw} {row : Option Nat} (h : RwOwn w base rs) (hg : w.grownBy w' row) (hr : ∀ r, row = some r → ∃ o : Obj, w.heap[r]? = some o ∧ o.isCells = false) : RwOwn w' base rs := fun r hr' =>
  own_block (h r hr') fun g cs hh => hg.block g (Array.getElem?_eq_some_iff.1 hh).1 fun e => by
    obtain ⟨o, ho, hc⟩ := hr g e.symm
    rw [hh] at ho; cases ho; cases hc
theorem RwOwn.others {w w' : World} {base : Nat} {rs : List Rw} {X : Nat → Prop} (h : RwOwn w base rs) (hK : Rg.Keeps X w w') (hx : ∀ k, X k → ∃ cs t fz, w.heap[k]? = some (Obj.cells cs t fz) ∧ t ≠ 37) : RwOwn w' base rs := fun r hr' =>
  own_block (h r hr') fun g cs hh => hK.block g (Array.getElem?_eq_some_iff.1 hh).1 fun e => by
    obtain ⟨cs', t, fz, ho, hc⟩ := hx g e
    rw [hh] at ho; cases ho; exact hc rfl
theorem row_put {w : World} {base D : Nat} {e : TypeId} {sz n : Nat} {v : Value} {xs : List Value} {o o' : Obj} (h : w.ownsRow base e sz v n xs) (hD : w.heap[D]? = some o) (hc : o.isCells = false) : (w.putObj D o').ownsRow base e sz v n xs :=
  own_block h fun g cs hh => World.putObj_heap_other (fun e => by subst e; rw [hh] at hD; cases hD; cases hc)
theorem RwOwn.put {w : World} {base D : Nat} {rs : List Rw} {o o' : Obj} (h : RwOwn w base rs) (hD : w.heap[D]? = some o) (hc : o.isCells = false) : RwOwn (w.putObj D o') base rs := fun r hr' => row_put (h r hr') hD hc
/-- a part of items -/
def partL (n : Nat) (l : List It) (x : Nat × Nat) : List It := (l.drop (min x.1 n)).take (min x.2 (n - min x.1 n))
theorem parts_cut {q n : Nat} {l : List It} (hq : 1 ≤ q) (hl : n = l.length) : (partsN q n (partsK q n)).map (partL n l) = cutL q l := by
  unfold cutL cutK partsN
  rw [List.map_map, ← hl]
  refine List.map_congr_left fun j hj => ?_
  have hj' := List.mem_range.1 hj
  have h1 := partsK_lt hq hj'
  show partL n l (j * q, min q (n - j * q)) = _
  unfold partL
  simp only [Nat.min_eq_left (Nat.le_of_lt h1)]
  have e : min (min q (n - j * q)) (n - j * q) = min q (n - j * q) := by omega
  rw [e]
  by_cases h2 : q ≤ n - j * q
  · rw [Nat.min_eq_left h2]
  · rw [Nat.min_eq_right (by omega), List.take_of_length_le (by rw [List.length_drop]; omega), List.take_of_length_le (by rw [List.length_drop]; omega)]
set_option maxRecDepth 100000 in
set_option maxHeartbeats 4000000 in
theorem cut_pos (A : Option Addr) (n c q : Nat) (m : Int) (l : List It) (w : World) (hn0 : 0 < n) (hr : Rd w w.heap.size 5 A n (itcs l)) (hn : n ≤ 1000000) (hnc : n ≤ c) (hq1 : 1 ≤ q) (hq2 : q ≤ 100) (hmn : min (max m 1) 100 = (q : Int)) :
    Calls Tryz.prog 40 #[.slice A n c, .int .i64 m] w (CutPost q l w) := by
  refine (callsIn_wide (n := 3)).1 ?_
  refine callsIn_of_wp_marks Tryz.func40 rfl trivial ?_ rfl
  simp only [Tryz.ntmps40, List.size_toArray, List.length_cons, List.length_nil, Nat.reduceAdd, Nat.reduceSub, Array.replicate_succ, Array.replicate_zero, List.push_toArray, List.append_toArray, List.nil_append, List.cons_append]
  gi_wp2
  clear hmn
  refine ⟨trivial, ?_⟩
  refine (callsIn_wide.2 (chunk_any A n c q hq1 _)).mono ?_
  rintro e w' ⟨rfl, rfl⟩
  gi_wp2
  obtain ⟨b, o, rfl, hbw, -⟩ := hr.2 hn0
  obtain ⟨W0, hW0⟩ : ∃ W0, W0 = ((w.alloc (.cells #[.slice none 0 0] 50)).alloc (.cells #[.slice (some ⟨b, o, none⟩) n c] 23)).alloc (.cells #[.int .i64 (q : Int)] 3) := ⟨_, rfl⟩
  rw [← hW0]
  have hup0 : Up w W0 := by rw [hW0]; exact (((Up.refl w).alloc _).alloc _).alloc _
  have hsz : W0.heap.size = w.heap.size + 3 := by rw [hW0]; simp
  have hll : n = l.length := hr.ilen
  have HLL := Lib.hid hll
  clear hll
  have hBo : Boxed W0 w.heap.size 50 (.slice none 0 0) := by rw [hW0]; exact ((Boxed.new w _ _).alloc _).alloc _
  have hBs : W0.cell? ⟨w.heap.size + 1, 0, none⟩ = some (.slice (some ⟨b, o, none⟩) n c) := by
    rw [hW0]
    have h := (Boxed.new (w.alloc (.cells #[.slice none 0 0] 50)) 23 (.slice (some ⟨b, o, none⟩) n c)).alloc (.cells #[.int .i64 (q : Int)] 3)
    rw [World.size_alloc w] at h
    exact h.cell
  have hBq : W0.cell? ⟨w.heap.size + 1 + 1, 0, none⟩ = some (.int .i64 (q : Int)) := by
    rw [hW0]
    have h := Boxed.new ((w.alloc (.cells #[.slice none 0 0] 50)).alloc (.cells #[.slice (some ⟨b, o, none⟩) n c] 23)) 3 (.int .i64 (q : Int))
    rw [World.size_alloc, World.size_alloc] at h
    exact h.cell
  clear hW0
  refine wpIn_rangeFunc_ownF rfl (by omega) (gf := 89) (lb := #[.pointer (some ⟨w.heap.size + 1, 0, none⟩), .pointer (some ⟨w.heap.size + 1 + 1, 0, none⟩)]) rfl trivial (enters_of Tryz.func89 (by kernel_rfl) rfl)
    (chunk_stops (3 - 1) (by omega) (w.heap.size + 1) (w.heap.size + 1 + 1) b o n c q hq1 hq2 (by omega) hnc W0 hBs hBq) (fun h k => h.trans k)
    (fun W l o o' hl h _ _ => ⟨by simp, World.putObj_heap_other (by omega), World.putObj_heap_other (by omega)⟩) (Below.refl _ _) (fun _ => rfl)
    (fun pre W => (∃ (rs : List Rw) (v : Value), Boxed W w.heap.size 50 v ∧ W.ownsRow (w.heap.size + 3) 23 1 v pre.length (rwv rs) ∧ RwOwn W (w.heap.size + 3) rs ∧ Hid (rwl rs = pre.map (partL n l))) ∧ (W.heap.size ≥ w.heap.size + 3 ∧ KB (w.heap.size + 1) (w.heap.size + 1 + 1) W0 W) ∧ Below w.heap.size w W)
    (fun _ _ _ => False)
    ?hown
    (fun _ _ _ _ _ hs _ _ => hs)
    ⟨⟨[], .slice none 0 0, hBo, World.ownsRow_nil _ _ _ _, RwOwn.nil _ _, rfl⟩, ⟨by omega, KB.refl _ _ _⟩, hup0⟩
    (fun x => { tmps := #[.slice (some ⟨b, o, none⟩) n c, .int .i64 m, undef, undef, .slice none 0 0, .pointer (some ⟨w.heap.size, 0, none⟩), partV b o n x, .slice (some ⟨b, o, none⟩) n c, .int .i64 m, .int .i64 (max m 1), .int .i64 (q : Int), .func (.func 89) #[] #[.pointer (some ⟨w.heap.size + 1, 0, none⟩), .pointer (some ⟨w.heap.size + 1 + 1, 0, none⟩)], partV b o n x, undef, undef, undef, undef, undef, undef], defers := [] }) ?assign ?body ?done ?stop
  case hown =>
    rintro pre W W' row ⟨⟨rs, v, hv1, hv2, hro, hrl⟩, ⟨hs, hk⟩, hB⟩ hg hrw
    have g1 : (some (w.heap.size + 1)) ≠ row := fun e => by have := (hrw _ e.symm).1; omega
    have g2 : (some (w.heap.size + 1 + 1)) ≠ row := fun e => by have := (hrw _ e.symm).1; omega
    refine ⟨?_, ⟨Nat.le_trans hs hg.size, hk.trans ⟨hg.size, hg.block _ (by omega) g1, hg.block _ (by omega) g2⟩⟩, ?_⟩
    · obtain ⟨v', hv', hw', -⟩ := (holdsRow_own (w.heap.size + 3) w.heap.size 50 23 1 (fun s : List (Nat × Nat) × List Value => s.1.length) (fun s => s.2) (fun _ u => u = v)) (pre, rwv rs) W W' row ⟨v, hv1, hv2, rfl⟩ hg (fun r e => (hrw r e).2)
      exact ⟨rs, v', hv', hw', hro.kept hg (fun r e => (hrw r e).2), hrl⟩
    · exact hB.grown hg hB.size (fun k e => by have := (hrw k e).1; omega)
  case assign =>
    intro l x W K hK
    gi_wp2
    exact hK
  case body =>
    rintro l' pre x W ⟨⟨rs, v, hv, hrow, hro, hrl⟩, ⟨hs, hk⟩, hB⟩ hlen
    obtain ⟨s0, hs0⟩ : ∃ s0, s0 = min x.1 n := ⟨_, rfl⟩
    obtain ⟨e0, he0⟩ : ∃ e0, e0 = min x.2 (n - s0) := ⟨_, rfl⟩
    have hpv : partV b o n x = .slice (some ⟨b, o + s0 * 5, none⟩) e0 e0 := by unfold partV; rw [← hs0, ← he0]
    rw [hpv]
    have hse : s0 + e0 ≤ n := by omega
    have hpl2 : partL n l x = (l.drop s0).take e0 := by unfold partL; rw [← hs0, ← he0]
    have HPL2 := Lib.hid hpl2
    clear hpv hs0 he0 hpl2
    have hpl : pre.length ≤ 1099511627776 := by have := partsK_n (q := q) (n := n) hq1; omega
    have hrB : ∀ W', Below w.heap.size W W' → Rd W' W'.heap.size 5 (some ⟨b, o + s0 * 5, none⟩) e0 (itcs ((l.drop s0).take e0)) := fun W' h => (hr.up (show Up w W' from Below.trans hB h)).part hse
    have hmx : Tryz.prog.follows .mixedOrders = true := by kernel_rfl
    gi_wp2
    apply Rg.region_own_in 6 (fun W1 => Below w.heap.size W W1) (fun g => g = w.heap.size ∨ Rg.ob v g) (fun W1 => Boxed W1 w.heap.size 50 v ∧ W1.ownsRow (w.heap.size + 3) 23 1 v pre.length (rwv rs)) ?hQ (by kernel_rfl) rfl (by kernel_rfl) (by kernel_rfl) ?hX ⟨hv, hrow⟩ ?hF0 ?hSS ?walk ?chk
    case hQ => rintro ⟨a, w', h⟩; exact h
    case hX =>
      rintro g (rfl | hg)
      · exact hv.lt
      · exact (hrow.lt g ((ob_of hrow).2 hg)).2
    case hF0 =>
      rintro w1 w2 ⟨h1, h2⟩ hst
      exact ⟨(hst.block _ h1.lt (.inr (.inl rfl))).trans h1, row_sta (Y := fun _ => False) h2 ⟨hst.size, fun g hl hy => hst.block g hl (.inr (.inr (hy.elim False.elim id)))⟩⟩
    case hSS =>
      intro w1 hK
      refine ⟨hK.os, hK.tape, hK.output, hK.size, fun k hk => hK.block k (Nat.lt_of_lt_of_le hk (show w.heap.size ≤ W.heap.size by omega)) ?_⟩
      rintro (h9 | hg)
      · omega
      · have := (hrow.lt k ((ob_of hrow).2 hg)).1; omega
    case chk => kernel_rfl
    case walk =>
      intro QN hQN
      apply Rg.RK.okU [6] (v := v)
      · intro vs w1 hS hf
        obtain ⟨⟨hb1, -⟩, -⟩ := hf
        have hc := Boxed.cell hb1
        go_simp
        (try with_reducible rfl)
      · rfl
      simp only [Act.put, List.setIfInBounds_toArray, List.set_cons_zero, List.set_cons_succ, Nat.reduceAdd]
      (apply Rg.RK.ok; (· intro vs w1 hS; go_simp; with_reducible rfl); (· rfl); simp only [Act.put, List.setIfInBounds_toArray, List.set_cons_zero, List.set_cons_succ, Nat.reduceAdd])
      apply Rg.RK.opn (fun val W1 => ∃ A3 c3, val = .slice A3 e0 c3 ∧ OwnI W1 (w.heap.size + 3) A3 e0 c3 ((l.drop s0).take e0)) Rg.ob [] []
      · rintro val W1 W2 ⟨A3, c3, rfl, h3⟩ hst
        exact ⟨A3, c3, rfl, row_sta h3 hst⟩
      · rfl
      · intro vs w1 hK hS hf K hKK
        go_simp
        refine (clone_own (some ⟨b, o + s0 * 5, none⟩) e0 e0 ((l.drop s0).take e0) w1 (hrB w1 hS) (by omega)).mono ?_
        rintro e w2 ⟨A3, c3, rfl, ho3, hu2⟩
        exact hKK.out _ _ ⟨A3, c3, rfl, own_base ho3 (Nat.le_trans hs hS.size)⟩ (Rg.Keeps.of_up hu2) (own_row ho3)
      simp only [Act.put, List.setIfInBounds_toArray, List.set_cons_zero, List.set_cons_succ, Nat.reduceAdd]
      apply Rg.RK.opD (fun vs W1 => ∃ g, vs 3 = .slice (some ⟨g, 0, none⟩) 1 1 ∧ W1.heap[g]? = some (.cells #[vs 2] 23 (0, 0))) (fun vs g => Rg.ob (vs 3) g) [2] [] [2] (fun vs vs' h => by rw [h 2 (by simp), h 3 (by simp)]; exact ⟨rfl, rfl⟩)
      · rintro vs W1 W2 ⟨g, hv3, hh⟩ hst
        exact ⟨g, hv3, (hst.block g (Array.getElem?_eq_some_iff.1 hh).1 (.inr (by rw [hv3]; rfl))).trans hh⟩
      · rfl
      · intro vs w1 hK hS hf K hKK
        obtain ⟨⟨A3, c3, hv2, -⟩, -⟩ := hf
        (try dsimp only at hKK ⊢)
        rw [hv2] at hKK ⊢
        go_simp
        refine hKK.out _ _ ⟨w1.heap.size, ?_, ?_⟩ (Rg.Keeps.of_up ((Up.refl _).alloc _)) ?_
        · rw [Rg.upd_same]
        · rw [Rg.upd_ne _ _ (by decide), hv2]; exact heap_alloc_new w1 _
        · rw [Rg.upd_same]
          rintro g rfl
          exact ⟨by simp, .inl (Nat.le_refl _)⟩
      simp only [Act.put, List.setIfInBounds_toArray, List.set_cons_zero, List.set_cons_succ, Nat.reduceAdd]
      apply Rg.RK.opD (fun vs W1 => Boxed W1 w.heap.size 50 v ∧ W1.ownsRow (w.heap.size + 3) 23 1 (vs 4) (pre.length + 1) (rwv rs ++ [vs 2])) (fun vs g => g = w.heap.size ∨ Rg.ob (vs 4) g) [6, 2, 3] [6] [2] (fun vs vs' h => by rw [h 2 (by simp), h 4 (by simp)]; exact ⟨rfl, rfl⟩)
      · rintro vs W1 W2 ⟨h1, h2⟩ hst
        exact ⟨(hst.block _ h1.lt (.inr (.inl rfl))).trans h1, row_sta (Y := fun _ => False) h2 ⟨hst.size, fun g hl hy => hst.block g hl (.inr (.inr (hy.elim False.elim id)))⟩⟩
      · rfl
      · intro vs w1 hK hS hf K hKK
        obtain ⟨⟨hb1, hr1⟩, ⟨A3, c3, hv2, -⟩, ⟨g, hv3, hh⟩, -⟩ := hf
        (try dsimp only at hKK ⊢)
        rw [hv2] at hKK hh
        (try rw [hv2])
        rw [hv3] at hKK ⊢
        have hr1' : w1.ownsRow (w.heap.size + 3) 23 1 v pre.length (rwv rs) := hr1
        have hb1' : Boxed w1 w.heap.size 50 v := hb1
        have hsw : W.heap.size ≤ w1.heap.size := hS.size
        refine wp_append_rd _ _ _ rowsT rfl rfl rfl hr1' (Rd.blk1 hh) (by simp [Value.oneCell']) (by omega) (by omega) (by omega) fun v' w5 ho' hg' hat' => ?_
        have hb5 : Boxed w5 w.heap.size 50 v := hb1'.kept hg' (hb1'.not_row (by decide) hr1')
        refine hKK.out _ _ ⟨hb5, ?_⟩ (keeps_grown hr1' hg' fun g hg => ⟨6, by simp, .inr hg⟩) ?_
        · rw [Rg.upd_same, Rg.upd_ne _ _ (by decide), hv2]; exact ho'
        · rw [Rg.upd_same]
          rintro g (h9 | hg)
          · subst h9; exact ⟨hb5.lt, .inr ⟨6, by simp, .inl rfl⟩⟩
          · have h9 := own_grown hr1' ho' hat' (X := fun g => Rg.ob v g) (fun g hg => hg) g hg
            exact ⟨h9.1, h9.2.imp id (fun h => ⟨6, by simp, .inr h⟩)⟩
      simp only [Act.put, List.setIfInBounds_toArray, List.set_cons_zero, List.set_cons_succ, Nat.reduceAdd]
      apply Rg.RK.opD (fun vs W1 => Boxed W1 w.heap.size 50 (vs 4) ∧ W1.ownsRow (w.heap.size + 3) 23 1 (vs 4) (pre.length + 1) (rwv rs ++ [vs 2])) (fun vs g => g = w.heap.size ∨ Rg.ob (vs 4) g) [4] [4] [2, 4] (fun vs vs' h => by rw [h 2 (by simp), h 4 (by simp)]; exact ⟨rfl, rfl⟩)
      · rintro vs W1 W2 ⟨h1, h2⟩ hst
        exact ⟨(hst.block _ h1.lt (.inr (.inl rfl))).trans h1, row_sta (Y := fun _ => False) h2 ⟨hst.size, fun g hl hy => hst.block g hl (.inr (.inr (hy.elim False.elim id)))⟩⟩
      · rfl
      · intro vs w1 hK hS hf K hKK
        obtain ⟨⟨hb1, hr1⟩, -⟩ := hf
        have hr1' : w1.ownsRow (w.heap.size + 3) 23 1 (vs 4) (pre.length + 1) (rwv rs ++ [vs 2]) := hr1
        have hb1' : Boxed w1 w.heap.size 50 v := hb1
        obtain ⟨A4, c4, hv4⟩ := own_form hr1'
        have hne : some w.heap.size ≠ (vs 4).ownBlock := hb1'.not_row (by decide) hr1'
        have hb2 : Boxed (w1.setCell ⟨w.heap.size, 0, none⟩ (vs 4)) w.heap.size 50 (vs 4) := hb1'.set _
        have hr2 : (w1.setCell ⟨w.heap.size, 0, none⟩ (vs 4)).ownsRow (w.heap.size + 3) 23 1 (vs 4) (pre.length + 1) (rwv rs ++ [vs 2]) := hr1'.kept (grownBy_setCell' w1 w.heap.size (vs 4)) (.inr hne.symm)
        have hc := hb1'.cell
        have hfz := hb1'.frozen
        (try dsimp only at hKK ⊢)
        rw [hv4] at hb2 hr2 hKK
        (try rw [hv4])
        go_simp
        have hKp : Rg.Keeps (fun x => x = w.heap.size) w1 (w1.setCell ⟨w.heap.size, 0, none⟩ (.slice A4 (pre.length + 1) c4)) := ⟨rfl, rfl, rfl, by simp, fun k hk hn => (grownBy_setCell' w1 w.heap.size _).block k hk (fun e => hn (by cases e; rfl))⟩
        refine hKK.out undef _ ⟨?_, ?_⟩ (Keeps.weak hKp fun y hy => ⟨4, List.mem_singleton.2 rfl, .inl hy⟩) ?_
        · rw [Rg.upd_ne _ _ (by decide), hv4]; exact hb2
        · rw [Rg.upd_ne _ _ (by decide), Rg.upd_ne _ _ (by decide), hv4]; exact hr2
        · rw [Rg.upd_ne _ _ (by decide)]
          rintro g (h9 | hg)
          · subst h9; exact ⟨hb2.lt, .inr ⟨4, List.mem_singleton.2 rfl, .inl rfl⟩⟩
          · have h8 := (hr1'.lt g ((ob_of hr1').2 hg)).2
            exact ⟨by simpa using h8, .inr ⟨4, List.mem_singleton.2 rfl, .inr hg⟩⟩
      simp only [Act.put, List.setIfInBounds_toArray, List.set_cons_zero, List.set_cons_succ, Nat.reduceAdd]
      apply Rg.RK.fin [5, 2]
      intro vs w8 hK hS hf
      obtain ⟨⟨hb8, hr8⟩, ⟨A3, c3, hv2, ho3⟩, -⟩ := hf
      refine hQN.out _ _ ?_
      clear hQN
      have nx : ∀ k, k < w.heap.size + 3 → k ≠ w.heap.size → ¬ (k = w.heap.size ∨ Rg.ob v k) := fun k h1 h2 h3 => by
        rcases h3 with h3 | h3
        · exact h2 h3
        · have := (hrow.lt k ((ob_of hrow).2 h3)).1; omega
      have hKO : KeepsOthers W w8 := ⟨hK.size, fun k o hko hoc => (hK.block k (Array.getElem?_eq_some_iff.1 hko).1 (fun h3 => by
        rcases h3 with h3 | h3
        · subst h3
          have e9 : some (Obj.cells #[v] 50 (0, 0)) = some o := (show W.heap[w.heap.size]? = _ from hv).symm.trans hko
          injection e9 with e9
          subst e9
          cases hoc
        · rcases hrow.2 with ⟨h4, _⟩ | ⟨g, cap, cur, h4, _, hgb, _⟩
          · rw [h4] at h3; exact h3.elim
          · have h5 := (ob_of hrow).2 h3
            rw [h4] at h5
            simp only [Value.ownBlock, Option.some.injEq] at h5
            subst h5
            rw [hgb] at hko
            injection hko with hko
            subst hko
            cases hoc)).trans hko⟩
      have hKB : KB (w.heap.size + 1) (w.heap.size + 1 + 1) W w8 := ⟨hK.size, hK.block _ (show w.heap.size + 1 < W.heap.size by omega) (nx _ (by omega) (by omega)), hK.block _ (show w.heap.size + 1 + 1 < W.heap.size by omega) (nx _ (by omega) (by omega))⟩
      have hW8 : W.heap.size ≤ w8.heap.size := hK.size
      have hr9 : w8.ownsRow (w.heap.size + 3) 23 1 (vs 4) (pre ++ [x]).length (rwv (rs ++ [⟨A3, e0, c3, (l.drop s0).take e0⟩])) := by
        have e9 : rwv (rs ++ [⟨A3, e0, c3, (l.drop s0).take e0⟩]) = rwv rs ++ [vs 2] := by simp [rwv, Rw.v, hv2]
        rw [List.length_append, e9]; exact hr8
      have hro8 : RwOwn w8 (w.heap.size + 3) rs := hro.others (X := fun g => g = w.heap.size ∨ Rg.ob v g) ⟨hK.os, hK.tape, hK.output, hK.size, hK.block⟩ (fun k h3 => by
        rcases h3 with h3 | h3
        · subst h3; exact ⟨_, _, _, hv, by decide⟩
        · rcases hrow.2 with ⟨h4, _⟩ | ⟨g, cap, cur, h4, _, hgb, _⟩
          · rw [h4] at h3; exact h3.elim
          · have h5 := (ob_of hrow).2 h3
            rw [h4] at h5
            simp only [Value.ownBlock, Option.some.injEq] at h5
            subst h5
            exact ⟨_, _, _, hgb, by decide⟩)
      have hrl8 : Hid (rwl (rs ++ [⟨A3, e0, c3, (l.drop s0).take e0⟩]) = (pre ++ [x]).map (partL n l)) := by
        show _ = _
        rw [List.map_append, ← hrl.out]
        simp [rwl, HPL2.out]
      exact ⟨hKO, hKB, ⟨_, vs 4, hb8, hr9, hro8.snoc ho3, hrl8⟩, ⟨by omega, hk.trans hKB⟩, Below.trans hB hS⟩
  case done =>
    rintro D ys W hD rfl ⟨⟨rs, v, hv, hrow, hro, hrl⟩, ⟨hs, hk⟩, hB⟩ hK
    rw [partsN_length] at hrow
    obtain ⟨A4, c4, rfl⟩ := own_form hrow
    have hc := hv.cell
    gi_wp2
    refine ⟨by simp, .inl ⟨_, _, rfl, run_takeDeferred hK, ?_⟩⟩
    refine ⟨_, results_tmp rfl _ _ _, ?_⟩
    have hbl := hB.trans (belowK_b (w := w) (Nat.le_refl _) W D _ (.deferred none) (by omega) hK rfl rfl)
    refine ⟨A4, partsK q n, c4, rs, rfl, Rd.own (row_put hrow hK rfl), (hro.put hK rfl).ok, ?_, hbl⟩
    rw [hrl.out, parts_cut hq1 HLL.out]
  case stop =>
    rintro D c' pre W _ _ h _
    exact h.elim
set_option maxRecDepth 100000 in
set_option maxHeartbeats 1000000 in
theorem chunk1_zero (d : Nat) (l Bs Bq : Nat) (A : Option Addr) (J : List (Nat × Nat) → World → Prop) (W : World) (c : Nat) (hBs : W.cell? ⟨Bs, 0, none⟩ = some (.slice A 0 c)) (h0 : J [] W) :
    CallsIn Fence.wide d Tryz.prog 89 #[.func (.yield l) #[] #[], .pointer (some ⟨Bs, 0, none⟩), .pointer (some ⟨Bq, 0, none⟩)] W fun e W' => (∃ v, e = .returned v) ∧ J [] W' := by
  refine callsIn_of_wp Tryz.func89 rfl trivial ?_ rfl
  simp only [Tryz.ntmps89, List.size_toArray, List.length_cons, List.length_nil, Nat.reduceAdd, Nat.reduceSub, Array.replicate_succ, Array.replicate_zero, List.push_toArray, List.append_toArray, List.nil_append, List.cons_append]
  gi_wp2
  gi_loopw [4] (fun i wr => i = .int .i64 0 ∧ wr = W) (fun _ _ => 0)
  case atStart => exact ⟨rfl, rfl⟩
  case round =>
    obtain ⟨rfl, rfl⟩ := hrel
    gi_wp2
    go_end0
    exact ⟨⟨_, rfl⟩, h0⟩
theorem chunk_stops_zero (d : Nat) (Bs Bq c : Nat) (A : Option Addr) (w : World) (hBs : w.cell? ⟨Bs, 0, none⟩ = some (.slice A 0 c)) :
    SeqStopsK Fence.wide d Tryz.prog 89 #[.pointer (some ⟨Bs, 0, none⟩), .pointer (some ⟨Bq, 0, none⟩)] (fun x : Nat × Nat => #[Value.slice none x.1 x.2]) (KB Bs Bq) (fun ys => ys = []) (fun pre => pre = []) 0 w := fun l J Jx W hW hJ _ hY h0 => by
  have c1 := (hW.cell (p := ⟨Bs, 0, none⟩) (World.block_lt_of_cell? w ⟨Bs, 0, none⟩ hBs)).trans hBs
  exact (chunk1_zero d l Bs Bq A J W c c1 h0).mono fun e W' ⟨he, hj⟩ => ⟨he, .inl ⟨_, rfl, hj⟩⟩
set_option maxRecDepth 100000 in
set_option maxHeartbeats 4000000 in
theorem cut_zero (A : Option Addr) (c q : Nat) (m : Int) (w : World) (hq1 : 1 ≤ q) (hq2 : q ≤ 100) (hmn : min (max m 1) 100 = (q : Int)) :
    Calls Tryz.prog 40 #[.slice A 0 c, .int .i64 m] w (CutPost q [] w) := by
  refine (callsIn_wide (n := 3)).1 ?_
  refine callsIn_of_wp_marks Tryz.func40 rfl trivial ?_ rfl
  simp only [Tryz.ntmps40, List.size_toArray, List.length_cons, List.length_nil, Nat.reduceAdd, Nat.reduceSub, Array.replicate_succ, Array.replicate_zero, List.push_toArray, List.append_toArray, List.nil_append, List.cons_append]
  gi_wp2
  clear hmn
  refine ⟨trivial, ?_⟩
  refine (callsIn_wide.2 (chunk_any A 0 c q hq1 _)).mono ?_
  rintro e w' ⟨rfl, rfl⟩
  gi_wp2
  obtain ⟨W0, hW0⟩ : ∃ W0, W0 = ((w.alloc (.cells #[.slice none 0 0] 50)).alloc (.cells #[.slice A 0 c] 23)).alloc (.cells #[.int .i64 (q : Int)] 3) := ⟨_, rfl⟩
  rw [← hW0]
  have hup0 : Up w W0 := by rw [hW0]; exact (((Up.refl w).alloc _).alloc _).alloc _
  have hsz : W0.heap.size = w.heap.size + 3 := by rw [hW0]; simp
  have hBo : Boxed W0 w.heap.size 50 (.slice none 0 0) := by rw [hW0]; exact ((Boxed.new w _ _).alloc _).alloc _
  have hBs : W0.cell? ⟨w.heap.size + 1, 0, none⟩ = some (.slice A 0 c) := by
    rw [hW0]
    have h := (Boxed.new (w.alloc (.cells #[.slice none 0 0] 50)) 23 (.slice A 0 c)).alloc (.cells #[.int .i64 (q : Int)] 3)
    rw [World.size_alloc w] at h
    exact h.cell
  clear hW0
  refine wpIn_rangeFunc_ownF rfl (by omega) (gf := 89) (lb := #[.pointer (some ⟨w.heap.size + 1, 0, none⟩), .pointer (some ⟨w.heap.size + 1 + 1, 0, none⟩)]) rfl trivial (enters_of Tryz.func89 (by kernel_rfl) rfl)
    (chunk_stops_zero (3 - 1) (w.heap.size + 1) (w.heap.size + 1 + 1) c A W0 hBs) (fun h k => h.trans k)
    (fun W l o o' hl h _ _ => ⟨by simp, World.putObj_heap_other (by omega), World.putObj_heap_other (by omega)⟩) (Below.refl _ _) (fun _ => rfl)
    (fun pre W => Boxed W w.heap.size 50 (.slice none 0 0) ∧ Below w.heap.size w W)
    (fun _ _ _ => False)
    ?hown
    (fun _ _ _ _ _ hs _ _ => hs)
    ⟨hBo, hup0⟩
    (fun x => { tmps := #[.slice A 0 c, .int .i64 m, undef, undef, .slice none 0 0, .pointer (some ⟨w.heap.size, 0, none⟩), .slice none x.1 x.2, .slice A 0 c, .int .i64 m, .int .i64 (max m 1), .int .i64 (q : Int), .func (.func 89) #[] #[.pointer (some ⟨w.heap.size + 1, 0, none⟩), .pointer (some ⟨w.heap.size + 1 + 1, 0, none⟩)], .slice none x.1 x.2, undef, undef, undef, undef, undef, undef], defers := [] }) ?assign ?body ?done ?stop
  case hown =>
    rintro pre W W' row ⟨hv1, hB⟩ hg hrw
    refine ⟨?_, hB.grown hg hB.size (fun k e => by have := (hrw k e).1; omega)⟩
    refine hv1.kept hg (fun e' => ?_)
    have := (hrw _ e'.symm).1
    omega
  case assign =>
    intro l x W K hK
    gi_wp2
    exact hK
  case body =>
    rintro l' pre x W - hlen
    omega
  case done =>
    rintro D ys W hD rfl ⟨hv, hB⟩ hK
    have hc := hv.cell
    gi_wp2
    refine ⟨by simp, .inl ⟨_, _, rfl, run_takeDeferred hK, ?_⟩⟩
    refine ⟨_, results_tmp rfl _ _ _, ?_⟩
    have hbl := hB.trans (belowK_b (w := w) (Nat.le_refl _) W D _ (.deferred none) (by omega) hK rfl rfl)
    refine ⟨none, 0, 0, [], rfl, Rd.empty, RwOk.nil _, ?_, hbl⟩
    have e0 : partsK q 0 = 0 := by unfold partsK; exact Nat.div_eq_of_lt (by omega)
    unfold cutL cutK
    rw [List.length_nil, e0]
    rfl
  case stop =>
    rintro D c' pre W _ _ h _
    exact h.elim
/-- Cut, for every slice and every bound -/
theorem cut_any (A : Option Addr) (n c : Nat) (m : Int) (l : List It) (w : World) (hr : Rd w w.heap.size 5 A n (itcs l)) (hnc : n ≤ c) (hn : n ≤ 1000000) :
    Calls Tryz.prog 40 #[.slice A n c, .int .i64 m] w (CutPost (mostQ m) l w) := by
  have hq := mostQ_bd m
  have hmn : min (max m 1) 100 = (mostQ m : Int) := by unfold mostQ; omega
  rcases Nat.eq_zero_or_pos n with h0 | h0
  · subst h0
    have hl : l = [] := List.eq_nil_of_length_eq_zero hr.ilen.symm
    subst hl
    exact cut_zero A c (mostQ m) m w hq.1 hq.2 hmn
  · exact cut_pos A n c (mostQ m) m l w h0 hr hn hnc hq.1 hq.2 hmn
end Go.Proofs.YtfmjgkfblejknaaGreat

/-
  The walk of table.Make.
-/
namespace Go.Proofs.YtfmjgkfblejknaaGreat
open Go.RowKit
set_option linter.unusedVariables false
set_option linter.unusedSimpArgs false

set_option maxRecDepth 100000 in
set_option maxHeartbeats 800000 in
theorem mk1_any (i : It) (w : World) :
    Calls Tryz.prog 38 #[.agg #[.int .i64 i.s.toInt, .int .i64 i.k.toInt, .int .u64 (i.t.toNat : Int), .int .u64 (i.v.toNat : Int), .int .i64 i.x.toInt]] w fun e w' => e = .returned (.bool (!okB i)) ∧ Up w w' := by
  go_enter Tryz.func38, Tryz.ntmps38
  go_wp2_with fail
  refine (ok_any i _).mono ?_
  rintro e w1 ⟨rfl, hu⟩
  go_wp2_with fail
  go_ret
  exact ⟨rfl, ((Up.refl w).alloc _).trans hu⟩
set_option maxRecDepth 100000 in
set_option maxHeartbeats 800000 in
theorem mkidx_any (A : Option Addr) (n c : Nat) (l : List It) (w : World) (hr : Rd w w.heap.size 5 A n (itcs l)) (hn : n ≤ 9223372036854775807) :
    Calls Tryz.prog 66 #[.slice A n c, .func (.func 38) #[] #[]] w fun e w' => ∃ z : Int, e = .returned (.int .i64 z) ∧ Hid (l.all okB = decide (z < 0)) ∧ Up w w' := by
  have HL := Lib.hid hr.ilen
  go_enter Tryz.func66, Tryz.ntmps66
  go_wp2_with fail
  go_loopw [8] (fun i wr => ∃ k : Nat, i = .int .i64 (k : Int) ∧ k ≤ n ∧ Hid ((l.take k).all okB = true) ∧ Up w wr) (fun i _ => n - (intOf i).toNat)
  case atStart => exact ⟨0, rfl, by omega, rfl, Up.refl _⟩
  case round =>
    obtain ⟨k, rfl, hk, hall, hu⟩ := hrel
    by_cases hlt : k < n
    · obtain ⟨b, o, i, rfl, hb, hik, c0, c1, c2, c3, c4⟩ := (hr.stay (Nat.le_refl _) hu).item_at hlt
      have HI := Lib.hid hik
      clear hik
      go_wp2_with fail
      refine (mk1_any i wr).mono ?_
      rintro e w2 ⟨rfl, hu2⟩
      have hkl : k < l.length := by have := HL.out; omega
      have htk : l.take (k + 1) = l.take k ++ [i] := by
        rw [List.take_succ_eq_append_getElem hkl]
        have := HI.out
        rw [List.getElem?_eq_getElem hkl] at this
        injection this with this
        rw [this]
      have HT := Lib.hid htk
      clear htk c0 c1 c2 c3 c4
      cases hok : okB i
      · have hf : Hid (l.all okB = decide ((k : Int) < 0)) := by
          show _ = _
          have : okB l[k] = false := by
            have h := HI.out
            rw [List.getElem?_eq_getElem hkl] at h
            injection h with h
            rw [h]; exact hok
          have h2 : l.all okB = false := by
            rw [List.all_eq_false]
            exact ⟨l[k], List.getElem_mem _, by rw [this]; simp⟩
          rw [h2]; simp
        clear hok
        go_wp2_with fail
        go_ret
        exact ⟨k, rfl, hf, hu.trans hu2⟩
      · have HO := Lib.hid hok
        clear hok
        go_wp2_with fail
        go_roundw
        case rel =>
          refine ⟨k + 1, by go_num, by omega, ?_, hu.trans hu2⟩
          show _ = _
          rw [HT.out, List.all_append, hall.out]
          simp [HO.out]
        case measure => simp [intOf]; omega
    · go_wp2_with fail
      go_ret
      refine ⟨-1, rfl, ?_, hu⟩
      show _ = _
      have hk' : k = l.length := by have := HL.out; omega
      have h := hall.out
      rw [hk', List.take_of_length_le (Nat.le_refl _)] at h
      rw [h]; rfl
set_option maxRecDepth 100000 in
set_option maxHeartbeats 800000 in
theorem mkcont_any (A : Option Addr) (n c : Nat) (l : List It) (w : World) (hr : Rd w w.heap.size 5 A n (itcs l)) (hn : n ≤ 9223372036854775807) :
    Calls Tryz.prog 37 #[.slice A n c, .func (.func 38) #[] #[]] w fun e w' => e = .returned (.bool (!(l.all okB))) ∧ Up w w' := by
  have H1 := Lib.hid (mkidx_any A n c l w hr hn)
  obtain ⟨r, hrr⟩ : ∃ q, q = l.all okB := ⟨_, rfl⟩
  rw [← hrr] at H1 ⊢
  clear hrr
  go_enter Tryz.func37, Tryz.ntmps37
  go_wp2_with fail
  refine H1.out.mono ?_
  rintro e w2 ⟨z, rfl, hz, hu⟩
  go_wp2_with fail
  go_ret
  refine ⟨ret_bool ?_, hu⟩
  rw [hz.out]
  by_cases h : z < 0
  · simp [h]
  · simp [h]; omega
theorem cutTo_1 (W : World) (A : Option Addr) (n c : Nat) (h1 : 1 ≤ c) :
    (Instr.slice 23 (.slice A n c) none (some (.int .i64 1)) none).run Tryz.prog W = .ok (.slice A 1 c) W := by
  rw [run_slice_h W 23 A n c (by rw [elem_i]; exact Tryz.underlying23) .i64 1 (by omega) (by omega), elem_i, sizeOf_i]
  have e4 : ∀ a : Addr, a.add 0 = a := fun a => by unfold Addr.add; simp
  simp [sliced, e4]
theorem putL_yes {bs l : List UInt8} {k : Nat} (h1 : 1 ≤ k) (h2 : k ≤ 100) (h3 : l.length ≤ 60000) : putE (k : Int) l.length = 0 ∧ putL bs (k : Int) l = bs ++ frameB (k : Int) l := by
  have h : putE (k : Int) l.length = 0 := by unfold putE; rw [if_neg (by omega), if_neg (by omega)]
  exact ⟨h, by unfold putL; rw [if_pos h]⟩
theorem blksB_take_le (L : List (List It)) (k : Nat) : (blksB (L.take k)).length ≤ (blksB L).length := by
  conv => rhs; rw [← List.take_append_drop k L, blksB_append, List.length_append]
  omega
theorem one_ok {z : List It} (h : bErr z = 0) : bytesE (z.take 1) = 0 := by
  obtain ⟨-, -, -, h4, -, -⟩ := bErr_ok h
  unfold bytesE
  rw [if_neg (by rw [List.length_take]; omega), if_pos]
  rw [List.all_eq_true] at h4 ⊢
  exact fun y hy => h4 y (List.mem_of_mem_take hy)
def MkPost (l : List It) (w : World) (e : Ending) (w' : World) : Prop :=
  ∃ A' n' c', e = .returned (.tuple #[.slice A' n' c', .int .i64 (makeE l : Int)]) ∧ OwnB w' w.heap.size A' n' c' (makeL l) ∧ Up w w'
theorem MkPost.no {l : List It} {E : Nat} {w w' : World} (h : makeE l = E) (hE : E ≠ 0) (hu : Up w w') : MkPost l w (.returned (.tuple #[.slice none 0 0, .int .i64 (E : Int)])) w' := by
  subst h
  refine ⟨none, 0, 0, rfl, ?_, hu⟩
  unfold makeL
  rw [if_neg hE]
  exact World.ownsRow_nil _ _ _ _
set_option maxRecDepth 100000 in
set_option maxHeartbeats 8000000 in
theorem make_any (A : Option Addr) (n c : Nat) (l : List It) (w : World) (hr : Rd w w.heap.size 5 A n (itcs l)) (hnc : n ≤ c) (hn : n ≤ 1000000) :
    Calls Tryz.prog 11 #[.slice A n c] w (MkPost l w) := by
  have HL := Lib.hid hr.ilen
  by_cases h2 : 2000 < n
  · have i1 : decide (2000 < (n : Int)) = true := by simp; omega
    have he : makeE l = 2 := by unfold makeE; rw [if_pos (by have := HL.out; omega)]
    have HE := Lib.hid he
    clear he
    go_enter Tryz.func11, Tryz.ntmps11
    go_wp2_with fail
    refine bodyPost_ret (v := .tuple #[.slice none 0 0, .int .i64 ((2 : Nat) : Int)]) (by simp [results, Tryz.results11, go_sem]) rfl ?_
    exact MkPost.no HE.out (by decide) (Up.refl _)
  have i1 : decide (2000 < (n : Int)) = false := by simp; omega
  have hR := rises_any A n c l w hr (by omega)
  obtain ⟨rb, hrb⟩ : ∃ q, q = risesB l := ⟨_, rfl⟩
  rw [← hrb] at hR
  have HR := Lib.hid hR
  obtain ⟨ob, hob⟩ : ∃ q, q = l.all okB := ⟨_, rfl⟩
  have hC := fun w1 (h : Up w w1) => mkcont_any A n c l w1 (hr.up h) (by omega)
  rw [← hob] at hC
  have HC := Lib.hid hC
  have hme : makeE l = if (rb && ob) then 0 else 1 := by unfold makeE; rw [if_neg (by have := HL.out; omega), hrb, hob]
  have HME := Lib.hid hme
  clear hR hC hrb hob hme
  cases rb with
  | false =>
    go_enter Tryz.func11, Tryz.ntmps11
    go_wp2_with fail
    refine HR.out.mono ?_
    rintro e w1 ⟨rfl, hu1⟩
    go_wp2_with fail
    refine bodyPost_ret (v := .tuple #[.slice none 0 0, .int .i64 ((1 : Nat) : Int)]) (by simp [results, Tryz.results11, go_sem]) rfl ?_
    exact MkPost.no HME.out (by decide) hu1
  | true =>
    cases ob with
    | false =>
      go_enter Tryz.func11, Tryz.ntmps11
      go_wp2_with fail
      refine HR.out.mono ?_
      rintro e w1 ⟨rfl, hu1⟩
      go_wp2_with fail
      refine (HC.out w1 hu1).mono ?_
      rintro e w2 ⟨rfl, hu2⟩
      go_wp2_with fail
      refine bodyPost_ret (v := .tuple #[.slice none 0 0, .int .i64 ((1 : Nat) : Int)]) (by simp [results, Tryz.results11, go_sem]) rfl ?_
      exact MkPost.no HME.out (by decide) (hu1.trans hu2)
    | true =>
      have he0 : makeE l = 0 := HME.out
      obtain ⟨m1, m2, m3, m4⟩ := makeE_ok he0
      have h20 : mostQ 20 = 20 := by decide
      have hcut := fun w1 (h : Up w w1) => cut_any A n c 20 l w1 (hr.up h) hnc (by omega)
      rw [h20] at hcut
      have HCUT := Lib.hid hcut
      have HE0 := Lib.hid he0
      have nil0 : ∀ w0, OwnB w0 w.heap.size none 0 0 [] := fun w0 => World.ownsRow_nil _ _ _ _
      have NIL := Lib.hid nil0
      clear HME h20 hcut he0 m2 m3 m4 nil0
      go_enter Tryz.func11, Tryz.ntmps11
      go_wp2_with fail
      refine HR.out.mono ?_
      rintro e w1 ⟨rfl, hu1⟩
      go_wp2_with fail
      refine (HC.out w1 hu1).mono ?_
      rintro e w2 ⟨rfl, hu2⟩
      clear HC HR
      go_wp2_with fail
      refine (HCUT.out w2 (hu1.trans hu2)).mono ?_
      rintro e w3 ⟨R, m, rc, rs, rfl, hrd, hok, hrl, hu3⟩
      have hup3 := (hu1.trans hu2).trans hu3
      have hmlen : m = (rowsC l).length := by rw [hrd.rlen, ← rwl_len, hrl]; rfl
      have hrows : rwl rs = rowsC l := hrl
      have hm101 : m ≤ 101 := by have := rowsC_len l; omega
      have htl := tb1_len m1
      have HTL := Lib.hid htl
      have HML := Lib.hid hmlen
      have HRW := Lib.hid hrows
      clear HCUT hu1 hu2 hu3 hrl hmlen hrows htl
      go_wp2_with fail
      go_loopw [4, 5, 24] (fun ov xv i wr => ∃ (k : Nat) (O : Option Addr) (on oc : Nat) (X : Option Addr) (xn xc : Nat), i = .int .i64 (k : Int) ∧ ov = .slice O on oc ∧ xv = .slice X xn xc ∧ k ≤ m ∧ on ≤ 325422 ∧ xn ≤ 100 * k ∧ OwnB wr w.heap.size O on oc (blksB ((rowsC l).take k)) ∧ OwnB wr w.heap.size X xn xc (idxK (rowsC l) k) ∧ Up w3 wr) (fun _ _ i _ => m - (intOf i).toNat)
      case atStart => exact ⟨0, none, 0, 0, none, 0, 0, rfl, rfl, rfl, by omega, by omega, by omega, NIL.out _, NIL.out _, Up.refl _⟩
      case round =>
        obtain ⟨k, O, on, oc, X, xn, xc, rfl, rfl, rfl, hk, hon, hxn, hO, hX, hur⟩ := hrel
        by_cases hlt : k < m
        · have i2 : (k : Int) < (m : Int) := by omega
          obtain ⟨b9, o9, r, rfl, hb9, hrk, hc9⟩ := hrd.row_at hlt
          have hmem := List.mem_of_getElem? hrk
          have hc9r : wr.cell? ⟨b9, o9 + k, none⟩ = some (.slice r.A r.n r.c) := (hur.cell (p := ⟨b9, o9 + k, none⟩) hb9).trans hc9
          have hkl : k < (rowsC l).length := by rw [← HML.out]; exact hlt
          have hrl : (rowsC l)[k] = r.l := by
            have h1 : (rwl rs)[k]? = some r.l := by simp [rwl, hrk]
            rw [HRW.out, List.getElem?_eq_getElem hkl] at h1
            injection h1
          have hzm : r.l ∈ rowsC l := by rw [← hrl]; exact List.getElem_mem _
          have hz20 := rowsC_row hzm
          have hbe := rowsC_may HE0.out hzm
          have hrr := (hok r hmem).1.up hur
          have hrn : r.n = r.l.length := hrr.ilen
          have hcc := (hok r hmem).2
          have hrn1 : 1 ≤ r.c := by omega
          have hrn0 : 1 ≤ r.n := by omega
          have hrn2 : r.n ≤ 20 := by omega
          have hb1 := one_ok hbe
          have hsn := blksB_snoc (rowsC l) k hkl
          rw [hrl] at hsn
          have hix := idxK_succ (rowsC l) k
          rw [List.getD_eq_getElem?_getD, List.getElem?_eq_getElem hkl, Option.getD_some, hrl] at hix
          have honl := hO.len
          rw [← honl] at hix
          have hxl := idxK_len (rowsC l) (by have := HTL.out; have h9 : (tb1 l).length = (blksB (rowsC l)).length := rfl; omega) (fun z hz => by have := (rowsC_row hz).1; omega) (k + 1) (by omega)
          have hol := blksB_take_le (rowsC l) (k + 1)
          replace hol : (blksB ((rowsC l).take (k + 1))).length ≤ 325422 := Nat.le_trans hol HTL.out
          have CT := fun W => cutTo_1 W r.A r.n r.c hrn1
          have y1 : IntKind.u64.wrap (on : Int) = (on : Int) := by rw [IntKind.wrap_u64]; omega
          have hput := put_any X xn xc (idxK (rowsC l) k) on wr (Rd.own hX) (by omega) (by omega)
          have hbk : blkL (blksB ((rowsC l).take k)) r.l = blksB ((rowsC l).take (k + 1)) := by unfold blkL; rw [if_pos hbe, hsn]
          have hby : bytesL (idxK (rowsC l) k ++ numB on) (r.l.take 1) = idxK (rowsC l) (k + 1) := by rw [bytesL_yes hb1, hix, List.append_assoc]
          have HPUT := Lib.hid hput
          have HBK := Lib.hid hbk
          have HBY := Lib.hid hby
          have HXL := Lib.hid hxl
          have HOL := Lib.hid hol
          have HB1 := Lib.hid hb1
          have HBE := Lib.hid hbe
          have HRR := Lib.hid hrr
          clear hput hbk hby hxl hol hb1 hbe hrr hix honl hsn hrn hcc hz20 hzm hrl hkl hmem hrk hc9 hX
          go_wp2_with fail
          refine HPUT.out.mono ?_
          rintro e w4 ⟨X4, xn4, xc4, rfl, hX4, hu4⟩
          have hbt := bytes_any X4 xn4 xc4 _ r.A 1 r.c (r.l.take 1) w4 (Rd.own hX4) ((HRR.out.toi hrn0).up hu4) (by have h8 := hX4.len; have h9 := numB_ten (n := on) (by omega); rw [List.length_append] at h8; have h7 := HXL.out; have hxx := HBY.out; rw [bytesL_yes HB1.out] at hxx; rw [← hxx, List.length_append, List.length_append] at h7; omega) (by omega)
          rw [HB1.out, HBY.out] at hbt
          have HBT := Lib.hid hbt
          have hO4 := own_up hO hu4
          have hur4 := hur.trans hu4
          clear hbt HPUT hX4 hO y1
          go_wp2_with fail
          refine HBT.out.mono ?_
          rintro e w5 ⟨X5, xn5, xc5, rfl, hX5, hu5⟩
          have hO5 := own_up hO4 hu5
          have hur5 := hur4.trans hu5
          have hbp := bput_any O on oc _ r.A r.n r.c r.l w5 (Rd.own hO5) (by omega) ((HRR.out.up hu4).up hu5) (by omega)
          rw [HBE.out, HBK.out] at hbp
          have HBP := Lib.hid hbp
          clear hbp HBT hO4 hO5 CT hc9r
          go_wp2_with fail
          refine HBP.out.mono ?_
          rintro e w6 ⟨O6, on6, oc6, rfl, hO6, hu6⟩
          have h3u : w.heap.size ≤ w5.heap.size := Nat.le_trans hup3.size hur5.size
          have h2u : w.heap.size ≤ w4.heap.size := Nat.le_trans hup3.size hur4.size
          have hX6 := own_base (own_up hX5 hu6) h2u
          have hO7 := own_base hO6 h3u
          have hol6 := hO6.len
          have hxl6 := hX5.len
          have h9a : on6 ≤ 325422 := by rw [hol6]; exact HOL.out
          have h9b : xn5 ≤ 100 * (k + 1) := by rw [hxl6]; exact HXL.out
          clear hol6 hxl6 HBP hX5 hO6
          go_wp2_with fail
          go_roundw
          case rel => exact ⟨k + 1, O6, on6, oc6, X5, xn5, xc5, by go_num, rfl, rfl, by omega, h9a, h9b, hO7, hX6, hur5.trans hu6⟩
          case measure => simp [intOf] <;> omega
        · have i2 : ¬ (k : Int) < (m : Int) := by omega
          obtain rfl : k = m := by omega
          have hall : (rowsC l).take k = rowsC l := List.take_of_length_le (by rw [← HML.out]; exact Nat.le_refl _)
          rw [hall] at hO
          replace hO : OwnB wr w.heap.size O on oc (tb1 l) := hO
          obtain ⟨ix, hix⟩ : ∃ ix, ix = idxK (rowsC l) k := ⟨_, rfl⟩
          rw [← hix] at hX
          have hix2 : ix = idxK (rowsC l) (rowsC l).length := by rw [hix, ← HML.out]
          have hxl := idx_len m1
          rw [← hix2] at hxl
          have honl := hO.len
          have p3 : putE 3 ix.length = 0 ∧ putL (tb1 l) 3 ix = tb2 l := by
            have h := putL_yes (bs := tb1 l) (l := ix) (k := 3) (by omega) (by omega) (by omega)
            refine ⟨h.1, h.2.trans ?_⟩
            unfold tb2; rw [hix2]; rfl
          have hbl := blm_len m1
          have p4 : putE 4 (blmB (filB l)).length = 0 ∧ putL (tb2 l) 4 (blmB (filB l)) = tb3 l := putL_yes (bs := tb2 l) (k := 4) (by omega) (by omega) (by omega)
          have hel := end_len m1
          have p5 : putE 5 (endB l).length = 0 ∧ putL (tb3 l) 5 (endB l) = tabB l := putL_yes (bs := tb3 l) (k := 5) (by omega) (by omega) (by omega)
          have h2l := tb2_len m1
          have h3l : (tb3 l).length ≤ 340000 := by unfold tb3; rw [List.length_append, frameB_len]; omega
          have hfl : (filB l).length ≤ 3000 := by have := filK_len l l.length; unfold filB; omega
          have y1 : IntKind.u64.wrap (on : Int) = (on : Int) := by rw [IntKind.wrap_u64]; omega
          have y2 : IntKind.u64.wrap (n : Int) = (n : Int) := by rw [IntKind.wrap_u64]; omega
          have hc1 := put_any none 0 0 [] on wr Rd.empty (by omega) (by omega)
          rw [List.nil_append, honl] at hc1
          rw [← honl] at hc1
          have hpl1 : (numB (tb1 l).length).length ≤ 10 := numB_ten (by have := HTL.out; omega)
          have hpl2 : (numB (tb2 l).length).length ≤ 10 := numB_ten (by omega)
          have HC1 := Lib.hid hc1
          have P3 := Lib.hid p3
          have P4 := Lib.hid p4
          have P5 := Lib.hid p5
          have HON := Lib.hid honl
          have HXL := Lib.hid hxl
          have H2L := Lib.hid h2l
          have H3L := Lib.hid h3l
          have HFL := Lib.hid hfl
          have HP1 := Lib.hid hpl1
          have HP2 := Lib.hid hpl2
          have hupr := hup3.trans hur
          have hn20 : n ≤ 2000 := by omega
          clear hall hix hix2 hxl honl p3 hbl p4 hel p5 h2l h3l hfl hc1 hpl1 hpl2 hrd hok hup3 hur
          go_wp2_with fail
          refine HC1.out.mono ?_
          rintro e w4 ⟨P, pn, pc, rfl, hP, hu4⟩
          rw [HON.out] at hP
          have hf3 := fput_any O on oc (tb1 l) 3 X xn xc ix w4 ((Rd.own hO).up hu4) ((Rd.own hX).up hu4) (by omega) (by omega)
          rw [P3.out.1, P3.out.2] at hf3
          have HF3 := Lib.hid hf3
          have hup4 := hupr.trans hu4
          clear hf3 HC1 hO hX y1
          go_wp2_with fail
          refine HF3.out.mono ?_
          rintro e w5 ⟨O5, on5, oc5, rfl, hO5, hu5⟩
          have hl5 := hO5.len
          have HL5 := Lib.hid hl5
          have hon5 : on5 ≤ 336000 := by rw [hl5]; exact H2L.out
          have y5 : IntKind.u64.wrap (on5 : Int) = (on5 : Int) := by rw [IntKind.wrap_u64]; omega
          have hup5 := hup4.trans hu5
          have hc5 := put_any P pn pc _ on5 w5 ((Rd.own hP).up hu5) (by have := hP.len; have := HP1.out; omega) (by omega)
          have HC5 := Lib.hid hc5
          clear hc5 HF3 hl5 hP
          go_wp2_with fail
          refine HC5.out.mono ?_
          rintro e w6 ⟨P6, pn6, pc6, rfl, hP6, hu6⟩
          rw [HL5.out] at hP6
          have hpn6 := hP6.len
          have HPN6 := Lib.hid hpn6
          clear hpn6
          have hup6 := hup5.trans hu6
          have hO6 := own_up hO5 hu6
          have hfi := filter_any A n c l w6 (hr.up hup6) hn20
          have HFI := Lib.hid hfi
          clear hfi HC5 hO5 y5
          go_wp2_with fail
          refine HFI.out.mono ?_
          rintro e w7 ⟨g, b, rfl, hfa, hu7⟩
          have hup7 := hup6.trans hu7
          have hfb := fbytes_any _ g b (filB l) w7 hfa HFL.out
          have HFB := Lib.hid hfb
          have hO7 := own_up hO6 hu7
          have hP7 := own_up hP6 hu7
          clear hfb HFI hO6 hP6
          go_wp2_with fail
          refine HFB.out.mono ?_
          rintro e w8 ⟨G8, gn8, gc8, rfl, hG8, hu8⟩
          have hup8 := hup7.trans hu8
          have hO8 := own_up hO7 hu8
          have hP8 := own_up hP7 hu8
          have hf4 := fput_any O5 on5 oc5 (tb2 l) 4 G8 gn8 gc8 _ w8 (Rd.own hO8) (Rd.own hG8) (by omega) (by have := hG8.len; have := blm_len m1; omega)
          rw [P4.out.1, P4.out.2] at hf4
          have HF4 := Lib.hid hf4
          clear hf4 HFB hO7 hP7 hG8 hfa
          go_wp2_with fail
          refine HF4.out.mono ?_
          rintro e w9 ⟨O9, on9, oc9, rfl, hO9, hu9⟩
          have hup9 := hup8.trans hu9
          have hP9 := own_up hP8 hu9
          have hl9 := hO9.len
          have hon9 : on9 ≤ 340000 := by rw [hl9]; exact H3L.out
          have hpn9 := HPN6.out
          have hpn92 : pn6 ≤ 20 := by rw [hpn9, List.length_append]; have := HP1.out; have := HP2.out; omega
          have hc9 := put_any P6 pn6 pc6 _ n w9 (Rd.own hP9) (by omega) (by omega)
          have hee : numB (tb1 l).length ++ numB (tb2 l).length ++ numB n = endB l := by unfold endB; rw [HL.out]
          rw [hee] at hc9
          have HC9 := Lib.hid hc9
          clear hc9 hee hl9 hpn9 hP8 hP9 hO8 HF4
          go_wp2_with fail
          refine HC9.out.mono ?_
          rintro e w10 ⟨E, en, ec, rfl, hE, hu10⟩
          have hup10 := hup9.trans hu10
          have hf5 := fput_any O9 on9 oc9 (tb3 l) 5 E en ec _ w10 ((Rd.own hO9).up hu10) (Rd.own hE) (by omega) (by have := hE.len; have := end_len m1; omega)
          rw [P5.out.1, P5.out.2] at hf5
          have HF5 := Lib.hid hf5
          clear hf5 HC9 hO9 hE
          go_wp2_with fail
          refine HF5.out.mono ?_
          rintro e w11 ⟨T, tn, tc, rfl, hT, hu11⟩
          have hup11 := hup10.trans hu11
          go_wp2_with fail
          refine bodyPost_ret (v := .tuple #[.slice T tn tc, .int .i64 ((0 : Nat) : Int)]) (by simp [results, Tryz.results11, go_sem]) rfl ?_
          refine ⟨T, tn, tc, by rw [HE0.out], ?_, hup11⟩
          have hml : makeL l = tabB l := by unfold makeL; rw [if_pos HE0.out]
          rw [hml]
          exact own_base hT hup10.size
end Go.Proofs.YtfmjgkfblejknaaGreat

/-
  The walks of slices.Grow and slices.Concat, of items; of a table's All, Len.
-/
namespace Go.Proofs.YtfmjgkfblejknaaGreat
open Go.RowKit
set_option linter.unusedVariables false
set_option linter.unusedSimpArgs false

theorem itcs_app (a b : List It) : itcs (a ++ b) = itcs a ++ itcs b := by simp [itcs]
theorem OwnI.ilen {w : World} {base n c : Nat} {A : Option Addr} {l : List It} (h : OwnI w base A n c l) : n = l.length := (Rd.own h).ilen
theorem growni_row (w : World) (n : Nat) (base : Nat) (h0 : 0 < n) (hb : base ≤ w.heap.size) (hm : n ≤ 1000000000) :
    ∃ c w', (Builtin.append_ #[23, 3] 23 #[.slice none 0 0, .int .i64 n]).run Tryz.prog w = .ok (.slice (some ⟨w.heap.size, 0, none⟩) n c) w' ∧ OwnI w' base (some ⟨w.heap.size, 0, none⟩) 0 c [] ∧ Up w w' ∧ n ≤ c := by
  obtain ⟨i, hi, hz, hs, hby⟩ := info_parts (P := Tryz.prog) (e := 37) (z := .agg #[.int .i64 0, .int .i64 0, .int .u64 0, .int .u64 0, .int .i64 0]) (size := 5) (bytes := 40) (by kernel_rfl)
  have := Lib.run_append_nil_zeros (P := Tryz.prog) w 23 3 23 37 i (.agg #[.int .i64 0, .int .i64 0, .int .u64 0, .int .u64 0, .int .i64 0]) .i64 .i64 itemsT.ut Tryz.underlying3 hi hz n h0 (by rw [hs]; omega) (by omega) (by rw [hby]; omega)
  have hge := grownCap_ge w n 0 37
  have hle := grownCap_le_maxLen w n 0 37 (by simp only [maxLen]; omega)
  refine ⟨_, _, this, ?_, (Up.refl w).drew.alloc _, hge⟩
  refine ⟨rfl, .inr ⟨w.heap.size, _, _, rfl, hb, heap_alloc_new w.drew _, Nat.zero_le _, hle, ?_, rfl⟩⟩
  rw [Array.size_append, size_zeroCells, size_zeroCells]
  show n * 5 + (_ - n) * 5 = _ * 5
  omega

set_option maxRecDepth 100000 in
set_option maxHeartbeats 1600000 in
theorem growi_any (n : Nat) (w : World) (hm : n ≤ 1000000000) :
    Calls Tryz.prog 65 #[.slice none 0 0, .int .i64 n] w fun e w' => ∃ A c, e = .returned (.slice A 0 c) ∧ OwnI w' w.heap.size A 0 c [] ∧ Up w w' := by
  by_cases h0 : 0 < n
  · go_enter Tryz.func65, Tryz.ntmps65
    obtain ⟨c, w2, hrun, hown, hu, hc⟩ := growni_row w n w.heap.size h0 (Nat.le_refl _) hm
    have h9 : (n : Int) ≤ 9223372036854775807 := by omega
    go_wp2_with (at_builtin; refine Lib.wpList_append_run _ rfl _ _ _ _ rfl _ _ rfl rfl _ _ hrun ?_)
    go_ret
    exact ⟨_, c, rfl, hown, hu⟩
  · obtain rfl : n = 0 := by omega
    go_enter Tryz.func65, Tryz.ntmps65
    go_wp2_with fail
    go_ret
    exact ⟨none, 0, rfl, World.ownsRow_nil _ _ _ _, Up.refl _⟩
/-- all items of the rows -/
def flL (rs : List Rw) : List It := rs.flatMap (·.l)
theorem flL_flat (rs : List Rw) : flL rs = (rwl rs).flatten := by simp [flL, rwl, List.flatMap]
theorem flL_take {rs : List Rw} {k : Nat} {p : Rw} (h : rs[k]? = some p) : flL (rs.take (k + 1)) = flL (rs.take k) ++ p.l := by
  obtain ⟨hk, rfl⟩ := List.getElem?_eq_some_iff.1 h
  unfold flL
  rw [List.take_succ_eq_append_getElem hk, List.flatMap_append, List.flatMap_singleton]
theorem flL_le (rs : List Rw) (k : Nat) : (flL (rs.take k)).length ≤ (flL rs).length := by
  have : flL rs = flL (rs.take k) ++ flL (rs.drop k) := by
    unfold flL; rw [← List.flatMap_append, List.take_append_drop]
  rw [this, List.length_append]; omega

set_option maxRecDepth 100000 in
set_option maxHeartbeats 1600000 in
theorem concati_any (Q : Option Addr) (m d : Nat) (rs : List Rw) (w : World) (hq : Rd w w.heap.size 1 Q m (rwv rs)) (hp : RwOk w rs) (ht : (flL rs).length ≤ 1000000) (hm : m ≤ 9223372036854775807) :
    Calls Tryz.prog 35 #[.slice Q m d] w fun e w' => ∃ A c, e = .returned (.slice A (flL rs).length c) ∧ OwnI w' w.heap.size A (flL rs).length c (flL rs) ∧ Up w w' := by
  have HM : Hid (m = rs.length) := by show _ = _; have := hq.1; rw [rwv_len] at this; omega
  have HP := Lib.hid hp
  clear hp
  have at_ : ∀ k, k < m → ∃ b o p, Q = some ⟨b, o, none⟩ ∧ b < w.heap.size ∧ rs[k]? = some p ∧ p ∈ rs ∧ ∀ W, Up w W → W.cell? ⟨b, o + k, none⟩ = some (.slice p.A p.n p.c) := by
    intro k hk
    obtain ⟨b, o, e, hb, hc⟩ := hq.2 (by omega)
    have hkl : k < rs.length := by have := HM.out; omega
    refine ⟨b, o, rs[k], e, hb, List.getElem?_eq_getElem hkl, List.getElem_mem _, fun W hW => ?_⟩
    have h1 := hc k (rs[k]).v (by simp [rwv, hkl])
    exact (hW.cell (p := ⟨b, o + k, none⟩) hb).trans h1
  have AT := Lib.hid at_
  clear at_
  have HT := Lib.hid ht
  clear ht
  go_enter Tryz.func35, Tryz.ntmps35
  go_wp2_with fail
  go_loop [3, 5, 11] (fun t _ i => ∃ k : Nat, i = .int .i64 (k : Int) ∧ k ≤ m ∧ t = .int .i64 ((flL (rs.take k)).length : Int)) (fun _ _ i => m - (intOf i).toNat)
  case atStart => exact ⟨0, rfl, by omega, rfl⟩
  case round =>
    obtain ⟨k, rfl, hk, rfl⟩ := hrel
    by_cases hlt : k < m
    · obtain ⟨b, o, p, rfl, hb, hpk, hpm, hcell⟩ := AT.out k hlt
      have hc := hcell w (Up.refl w)
      have hl := (HP.out p hpm).1.ilen
      have h1 := flL_take hpk
      have h2 := flL_le rs (k + 1)
      have h3 : (flL (rs.take (k + 1))).length = (flL (rs.take k)).length + p.n := by rw [h1, List.length_append, hl]
      have H3 := Lib.hid h3
      have hbd : (flL (rs.take k)).length + p.n ≤ 1000000 := by have := HT.out; omega
      clear h1 h2 h3 hcell hl hpk
      generalize (flL (rs.take k)).length = s at *
      go_wp2
      go_round
      case rel => exact ⟨k + 1, by go_num, by omega, by rw [H3.out]; go_num⟩
      case measure => simp [intOf]; omega
    · have hkm : k = m := by omega
      subst hkm
      have hall : rs.take k = rs := List.take_of_length_le (by have := HM.out; omega)
      rw [hall]
      clear hall
      have hbig : (flL rs).length ≤ 1000000000 := by have := HT.out; omega
      go_wp2_with fail
      refine (growi_any _ w hbig).mono ?_
      rintro e w1 ⟨A1, c1, rfl, ho1, hu1⟩
      go_wp2_with fail
      go_loopw [6, 8, 27] (fun v _ i wr => ∃ (j : Nat) (R : Option Addr) (n c : Nat), i = .int .i64 (j : Int) ∧ j ≤ k ∧ v = .slice R n c ∧ OwnI wr w.heap.size R n c (flL (rs.take j)) ∧ Up w wr) (fun _ _ i _ => k - (intOf i).toNat)
      case atStart => exact ⟨0, A1, 0, c1, rfl, by omega, rfl, ho1, hu1⟩
      case round =>
        obtain ⟨j, R, n, c, rfl, hj, rfl, ho, hu⟩ := hrel
        by_cases hlt' : j < k
        · obtain ⟨b, o, p, rfl, hb, hpk, hpm, hcell⟩ := AT.out j hlt'
          have hc := hcell wr hu
          have hrp := (HP.out p hpm).1.stay (Nat.le_refl _) hu
          have hl := hrp.ilen
          have h1 := flL_take hpk
          have h2 := flL_le rs (j + 1)
          have hn := ho.ilen
          have hbd : n + p.n ≤ 1000000 := by
            have := HT.out
            rw [h1, List.length_append] at h2; omega
          have H1 := Lib.hid h1
          clear h1 h2 hcell hl hpk hn
          go_wp2_with (at_builtin; refine wpList_append_rd _ itemsT ho hrp (itcs_one _) (by omega) (by omega) hu.size rfl rfl rfl rfl ?_; intro v2 w2 hown2 hg2 hat2; obtain ⟨A2, c2, rfl⟩ := own_form hown2)
          rw [← itcs_app, ← H1.out] at hown2
          have hu2 : Up w w2 := hu.grown hg2 (fun g hg => (ho.lt g hg).1)
          go_roundw
          case rel => exact ⟨j + 1, A2, n + p.n, c2, by go_num, by omega, rfl, hown2, hu2⟩
          case measure => simp [intOf]; omega
        · have hjk : j = k := by omega
          subst hjk
          have hall : rs.take j = rs := List.take_of_length_le (by have := HM.out; omega)
          rw [hall] at ho
          have hn := ho.ilen
          have HN := Lib.hid hn
          clear hn hall
          go_wp2_with fail
          go_ret
          have hn := HN.out
          subst hn
          exact ⟨R, c, rfl, ho, hu⟩
end Go.Proofs.YtfmjgkfblejknaaGreat

/-
  The walk of block.Take once more: what it hands back is its own.
-/
namespace Go.Proofs.YtfmjgkfblejknaaGreat
open Go.RowKit
set_option linter.unusedVariables false
set_option linter.unusedSimpArgs false

def TbOwn (r : Nat × List It × Int) (w : World) (e : Ending) (w' : World) : Prop :=
  ∃ R rn rc, e = .returned (.tuple #[.slice R rn rc, .int .i64 r.2.2, .int .i64 (r.1 : Int)]) ∧ OwnI w' w.heap.size R rn rc r.2.1 ∧ Up w w'
theorem TbOwn.no {r : Nat × List It × Int} {E : Nat} {w w' : World} (h : r = (E, [], 0)) (hu : Up w w') : TbOwn r w (.returned (.tuple #[.slice none 0 0, .int .i64 0, .int .i64 (E : Int)])) w' := by
  subst h
  exact ⟨none, 0, 0, rfl, World.ownsRow_nil _ _ _ _, hu⟩
set_option maxRecDepth 100000 in
set_option maxHeartbeats 1600000 in
theorem btakeO_any (A0 : Option Addr) (n c : Nat) (bs : List UInt8) (at_ : Int) (w : World) (hr : Rd w w.heap.size 1 A0 n (bvs bs)) (hn : n ≤ 549755813888) (hnc : n ≤ c) :
    Calls Tryz.prog 33 #[.slice A0 n c, .int .i64 at_] w (TbOwn (takeB bs at_) w) := by
  have hal := hr.blen
  obtain ⟨E, K, bd, nx, hT⟩ : ∃ E K bd nx, takeF bs at_ = (E, K, bd, nx) := ⟨_, _, _, _, rfl⟩
  have hv : takeB bs at_ = if E = 1 then (1, [], 0) else if E ≠ 0 ∨ K ≠ 2 then (9, [], 0) else if (readL bd).1 ≠ 0 ∨ bErr (readL bd).2 ≠ 0 then (9, [], 0) else (0, (readL bd).2, nx) := by
    unfold takeB; rw [hT]
  have hbd : bd.length ≤ 549755813888 := by
    have h := takeF_len bs at_
    rw [hT] at h
    exact Nat.le_trans h (by omega)
  have HV := Lib.hid hv
  have HT := Lib.hid hT
  have HBD := Lib.hid hbd
  clear hv hT hal hbd
  go_enter Tryz.func33, Tryz.ntmps33
  go_wp2_with fail
  refine (ftake_any A0 n c bs at_ w hr (by omega) hnc).mono ?_
  rintro e w3 ⟨B, bn, bc, rfl, hoB, hu3⟩
  rw [HT.out] at hoB ⊢
  (try dsimp only at hoB ⊢)
  have hrB := hoB.rd
  have hbc := own_cap hoB
  have hbl := hrB.blen
  have HBL := Lib.hid hbl
  clear hoB hr hnc hbl
  by_cases hE1 : E = 1
  · have HNO : Hid (takeB bs at_ = (1, [], 0)) := by show _ = _; rw [HV.out, if_pos hE1]
    subst hE1
    have c1 : (((1 : Nat) : Int) == 1) = true := rfl
    clear HV HT
    go_wp2_with fail
    refine bodyPost_ret (v := .tuple #[.slice none 0 0, .int .i64 0, .int .i64 ((1 : Nat) : Int)]) (by simp [results, Tryz.results33, go_sem]) rfl ?_
    exact TbOwn.no HNO.out hu3
  · have c1 : ((E : Int) == 1) = false := by simp; omega
    by_cases hEK : E ≠ 0 ∨ K ≠ 2
    · have HNO : Hid (takeB bs at_ = (9, [], 0)) := by show _ = _; rw [HV.out, if_neg hE1, if_pos hEK]
      by_cases hE0 : E = 0
      · have c2 : ((E : Int) != 0) = false := by simp [hE0]
        have c3 : ((K : Int) != 2) = true := by simp; omega
        clear HV HT hE0 hEK hE1
        go_wp2_with fail
        refine bodyPost_ret (v := .tuple #[.slice none 0 0, .int .i64 0, .int .i64 ((9 : Nat) : Int)]) (by simp [results, Tryz.results33, go_sem]) rfl ?_
        exact TbOwn.no HNO.out hu3
      · have c2 : ((E : Int) != 0) = true := by simp; omega
        clear HV HT hE0 hEK hE1
        go_wp2_with fail
        refine bodyPost_ret (v := .tuple #[.slice none 0 0, .int .i64 0, .int .i64 ((9 : Nat) : Int)]) (by simp [results, Tryz.results33, go_sem]) rfl ?_
        exact TbOwn.no HNO.out hu3
    · have c2 : ((E : Int) != 0) = false := by simp; omega
      have c3 : ((K : Int) != 2) = false := by simp; omega
      have HV2 : Hid (takeB bs at_ = if (readL bd).1 ≠ 0 ∨ bErr (readL bd).2 ≠ 0 then (9, [], 0) else (0, (readL bd).2, nx)) := by show _ = _; rw [HV.out, if_neg hE1, if_neg hEK]
      have hq2 := readL_len2 bd
      clear HV HT hEK hE1
      go_wp2_with fail
      refine (read_any B bn bc bd w3 hrB (by have := HBL.out; have := HBD.out; omega) hbc).mono ?_
      rintro e w4 ⟨Q, qn, qc, rfl, hoQ, hu4⟩
      obtain ⟨qe, ql, hq⟩ : ∃ a b, readL bd = (a, b) := ⟨_, _, rfl⟩
      rw [hq] at hoQ HV2 hq2 ⊢
      (try dsimp only at hoQ HV2 hq2 ⊢)
      clear hq
      have hQ : Rd w4 w4.heap.size 5 Q qn (itcs ql) := Rd.own hoQ
      have hqc : qn ≤ qc := own_cap hoQ
      have hql := hQ.ilen
      have HQL := Lib.hid hql
      have hup4 := hu3.trans hu4
      have hq3 : qn ≤ 2000 := by omega
      have HOQ := Lib.hid (own_base hoQ hu3.size)
      clear hql hoQ
      by_cases hqe : qe = 0
      · have c4 : ((qe : Int) != 0) = false := by simp [hqe]
        by_cases h100 : 100 < qn
        · have HNO : Hid (takeB bs at_ = (9, [], 0)) := by
            show _ = _
            rw [HV2.out, if_pos (.inr (by unfold bErr; rw [if_pos (by rw [← HQL.out]; exact h100)]; decide))]
          have c5 : (100 : Int) < (qn : Int) := by omega
          clear HV2 hqe
          go_wp2_with fail
          refine bodyPost_ret (v := .tuple #[.slice none 0 0, .int .i64 0, .int .i64 ((9 : Nat) : Int)]) (by simp [results, Tryz.results33, go_sem]) rfl ?_
          exact TbOwn.no HNO.out hup4
        · have c5 : ¬ (100 : Int) < (qn : Int) := by omega
          go_wp2_with fail
          refine (bmay_any Q qn qc ql w4 hQ (by omega)).mono ?_
          rintro e w5 ⟨rfl, hu5⟩
          obtain ⟨mb, hmb⟩ : ∃ q, q = mayL ql := ⟨_, rfl⟩
          rw [← hmb]
          have HM := Lib.hid hmb
          clear hmb
          cases mb
          · have HNO : Hid (takeB bs at_ = (9, [], 0)) := by
              show _ = _
              rw [HV2.out, if_pos (.inr (by unfold bErr; rw [if_neg (by rw [← HQL.out]; exact h100), ← HM.out]; decide))]
            clear HV2 hqe
            go_wp2_with fail
            refine bodyPost_ret (v := .tuple #[.slice none 0 0, .int .i64 0, .int .i64 ((9 : Nat) : Int)]) (by simp [results, Tryz.results33, go_sem]) rfl ?_
            exact TbOwn.no HNO.out (hup4.trans hu5)
          · have HYES : Hid (takeB bs at_ = (0, ql, nx)) := by
              show _ = _
              rw [HV2.out, if_neg (by
                rintro (h | h)
                · exact h hqe
                · apply h; unfold bErr; rw [if_neg (by rw [← HQL.out]; exact h100), ← HM.out]; rfl)]
            clear HV2 hqe
            go_wp2_with fail
            refine bodyPost_ret (v := .tuple #[.slice Q qn qc, .int .i64 nx, .int .i64 0]) (by simp [results, Tryz.results33, go_sem]) rfl ?_
            unfold TbOwn
            rw [HYES.out]
            exact ⟨Q, qn, qc, rfl, own_up HOQ.out hu5, hup4.trans hu5⟩
      · have HNO : Hid (takeB bs at_ = (9, [], 0)) := by show _ = _; rw [HV2.out, if_pos (.inl hqe)]
        have c4 : ((qe : Int) != 0) = true := by simp; omega
        clear HV2 hqe
        go_wp2_with fail
        refine bodyPost_ret (v := .tuple #[.slice none 0 0, .int .i64 0, .int .i64 ((9 : Nat) : Int)]) (by simp [results, Tryz.results33, go_sem]) rfl ?_
        exact TbOwn.no HNO.out hup4
end Go.Proofs.YtfmjgkfblejknaaGreat

/-
  The walks of table.Read, of a table's All and Len.
-/
namespace Go.Proofs.YtfmjgkfblejknaaGreat
open Go.RowKit
set_option linter.unusedVariables false
set_option linter.unusedSimpArgs false

/-- a table's cells: its rows, how many items, the Once, the filter -/
def tcs (R : Option Addr) (m rc N d : Nat) (f : Option Addr) : Array Value := #[.slice R m rc, .int .i64 (N : Int), .int .u32 (d : Int), .int .i32 0, .int .u32 0, .pointer f]
theorem itB_pos (i : It) : 1 ≤ (itB i).length := by
  unfold itB
  simp only [List.length_append, List.length_cons]
  omega
theorem itemsB_ge (l : List It) : l.length ≤ (itemsB l).length := by
  have h : ∀ l : List It, l.length ≤ (l.flatMap itB).length := by
    intro l
    induction l with
    | nil => exact Nat.le_refl _
    | cons a l ih =>
      have := itB_pos a
      rw [List.flatMap_cons, List.length_append, List.length_cons]; omega
  have := h l
  unfold itemsB
  rw [List.length_append]; omega
theorem tab_kept {w1 w5 : World} {B k rc : Nat} {R : Option Addr} {rs : List Rw} {g : Nat} {cs : Array Value} {o : Obj} (h : OwnRI w1 B R k rc rs) (hd : w1.heap[g]? = some (.cells cs 74 (0, 0))) (hg : (w1.alloc o).grownBy w5 (Value.slice R k rc).ownBlock) : w5.heap[g]? = some (.cells cs 74 (0, 0)) := by
  have hgl := (Array.getElem?_eq_some_iff.1 hd).1
  have h2 := Below.heap_alloc w1 o g hgl
  refine (hg.block g (by rw [World.size_alloc]; omega) ?_).trans (h2.trans hd)
  intro e
  rcases h.2 with ⟨h3, -⟩ | ⟨gR, cap, cur, h3, h4, h5, -⟩
  · rw [h3] at e
    simp [Value.ownBlock] at e
  · rw [h3] at e
    simp [Value.ownBlock] at e
    subst e
    rw [h5] at hd
    injection hd with hd
    injection hd with _ hd
    exact absurd hd (by decide)
theorem tab_cells {w : World} {g : Nat} {r x1 x2 x3 x4 x5 : Value} {t : TypeId} (h : w.heap[g]? = some (.cells #[r, x1, x2, x3, x4, x5] t (0, 0))) : w.cell? ⟨g, 0, none⟩ = some r ∧ w.frozen? ⟨g, 0, none⟩ = false ∧ (∀ v, (w.setCell ⟨g, 0, none⟩ v).cell? ⟨g, 1, none⟩ = some x1) ∧ (∀ v, (w.setCell ⟨g, 0, none⟩ v).frozen? ⟨g, 1, none⟩ = false) ∧ ∀ v u, ((w.setCell ⟨g, 0, none⟩ v).setCell ⟨g, 1, none⟩ u).heap[g]? = some (.cells #[v, u, x2, x3, x4, x5] t (0, 0)) := by
  have h1 : ∀ v, (w.setCell ⟨g, 0, none⟩ v).heap[g]? = some (.cells #[v, x1, x2, x3, x4, x5] t (0, 0)) := fun v => by simp [World.setCell, Array.getElem?_modify, h]
  have h2 : ∀ v u, ((w.setCell ⟨g, 0, none⟩ v).setCell ⟨g, 1, none⟩ u).heap[g]? = some (.cells #[v, u, x2, x3, x4, x5] t (0, 0)) := fun v u => by
    have h3 := h1 v
    generalize w.setCell ⟨g, 0, none⟩ v = w1 at h3
    simp [World.setCell, Array.getElem?_modify, h3]
  refine ⟨blk_cell h 0, by simp [World.frozen?, h], fun v => blk_cell (h1 v) 1, fun v => ?_, h2⟩
  have h3 := h1 v
  generalize w.setCell ⟨g, 0, none⟩ v = w1 at h3 ⊢
  simp [World.frozen?, h3]
/-- one step of reading -/
theorem scan_step {bs : List UInt8} {p f : Nat} {q : List It} {m : Int} (h : takeB bs (p : Int) = (0, q, m)) : ∃ m' : Nat, m = (m' : Int) ∧ p + q.length + 12 ≤ m' ∧ m' ≤ bs.length ∧ q.length ≤ 100 ∧ bErr q = 0 ∧ scanL (f + 1) bs (p : Int) = q :: scanL f bs (m' : Int) := by
  obtain ⟨p', m', h1, h2, h3, h4, h5, h6⟩ := takeB_canon h
  have hp : p' = p := by omega
  subst hp
  subst h2
  refine ⟨m', rfl, ?_, h4, (bErr_ok h5).1, h5, ?_⟩
  · have h7 := congrArg List.length h6
    rw [frameB_len, List.length_take, List.length_drop] at h7
    have := itemsB_ge q
    omega
  · rw [scanL, h, if_pos rfl]
/-- what Read has when it is at a place -/
structure TRd (w : World) (bs : List UInt8) (p k N : Nat) (R : Option Addr) (rc : Nat) (rs : List Rw) (wr : World) : Prop where
  hd : wr.heap[w.heap.size]? = some (.cells (tcs R k rc N 0 none) 74 (0, 0))
  own : OwnRI wr w.heap.size R k rc rs
  rows : RwOwn wr w.heap.size rs
  tot : N = (rwl rs).flatten.length
  bd : N + 12 * k ≤ p
  pl : p ≤ bs.length
  sc : ∃ f, bs.length - p < f ∧ rwl rs ++ scanL f bs (p : Int) = scanL (bs.length + 1) bs 0
  up : Up w wr
set_option maxRecDepth 100000 in
set_option maxHeartbeats 800000 in
theorem beqs_any (A : Option Addr) (n c : Nat) (x : List UInt8) (B : Option Addr) (m d : Nat) (y : List UInt8) (w : World) (hx : Rd w w.heap.size 1 A n (bvs x)) (hy : Rd w w.heap.size 1 B m (bvs y)) :
    Calls Tryz.prog 34 #[.slice A n c, .slice B m d] w fun e w' => e = .returned (.bool (decide (x = y))) ∧ w = w' := by
  have r1 : (convert 22 9 (.slice A n c)).run Tryz.prog w = .ok (.string (tx x)) w := run_str c hx
  have r2 : (convert 22 9 (.slice B m d)).run Tryz.prog w = .ok (.string (tx y)) w := run_str d hy
  clear hx hy
  by_cases h : x = y
  · have e1 := tx_beq h
    have e2 : decide (x = y) = true := decide_eq_true h
    have E2 := Lib.hid e2
    clear h e2
    go_enter Tryz.func34, Tryz.ntmps34
    go_wp2_with fail
    go_ret
    refine ⟨?_, rfl⟩
    rw [E2.out]
    first | rfl | (simp [e1]; done) | (congr 2)
  · have e1 := tx_bne h
    have e2 : decide (x = y) = false := decide_eq_false h
    have E2 := Lib.hid e2
    clear h e2
    go_enter Tryz.func34, Tryz.ntmps34
    go_wp2_with fail
    go_ret
    refine ⟨?_, rfl⟩
    rw [E2.out]
    first | rfl | (simp [e1]; done) | (congr 2)
set_option maxRecDepth 100000 in
set_option maxHeartbeats 800000 in
theorem tall_cell (g m rc : Nat) (R : Option Addr) (rs : List Rw) (w : World) (c0 : w.cell? ⟨g, 0, none⟩ = some (.slice R m rc)) (hq : Rd w w.heap.size 1 R m (rwv rs)) (hok : RwOk w rs) (ht : (flL rs).length ≤ 1000000) (hm : m ≤ 9223372036854775807) :
    Calls Tryz.prog 10 #[.pointer (some ⟨g, 0, none⟩)] w fun e w' => ∃ A c, e = .returned (.slice A (flL rs).length c) ∧ OwnI w' w.heap.size A (flL rs).length c (flL rs) ∧ Up w w' := by
  have HC := Lib.hid (concati_any R m rc rs w hq hok ht hm)
  clear hq hok ht
  go_enter Tryz.func10, Tryz.ntmps10
  go_wp2_with fail
  refine HC.out.mono ?_
  rintro e w1 ⟨A, c, rfl, ho, hu⟩
  go_wp2_with fail
  go_ret
  exact ⟨A, c, rfl, ho, hu⟩
theorem tall_any (g m rc N d : Nat) (R f : Option Addr) (rs : List Rw) (w : World) (hd : w.heap[g]? = some (.cells (tcs R m rc N d f) 74 (0, 0))) (hq : Rd w w.heap.size 1 R m (rwv rs)) (hok : RwOk w rs) (ht : (flL rs).length ≤ 1000000) (hm : m ≤ 9223372036854775807) :
    Calls Tryz.prog 10 #[.pointer (some ⟨g, 0, none⟩)] w fun e w' => ∃ A c, e = .returned (.slice A (flL rs).length c) ∧ OwnI w' w.heap.size A (flL rs).length c (flL rs) ∧ Up w w' :=
  tall_cell g m rc R rs w (blk_cell hd 0) hq hok ht hm
/-- what Read comes to -/
def TrPost (bs : List UInt8) (w : World) (e : Ending) (w' : World) : Prop :=
  match readT bs with
  | none => e = .returned (.tuple #[.pointer none, .int .i64 9]) ∧ Up w w'
  | some L => ∃ (g m rc N : Nat) (R : Option Addr) (rs : List Rw), e = .returned (.tuple #[.pointer (some ⟨g, 0, none⟩), .int .i64 0]) ∧ w'.heap[g]? = some (.cells (tcs R m rc N 0 none) 74 (0, 0)) ∧ w.heap.size ≤ g ∧ OwnRI w' w.heap.size R m rc rs ∧ RwOwn w' w.heap.size rs ∧ rwl rs = L ∧ N = L.flatten.length ∧ Up w w'
set_option maxRecDepth 100000 in
set_option maxHeartbeats 8000000 in
theorem tread_any (A : Option Addr) (n c : Nat) (bs : List UInt8) (w : World) (hr : Rd w w.heap.size 1 A n (bvs bs)) (hn6 : n ≤ 1000000) (hnc : n ≤ c) :
    Calls Tryz.prog 9 #[.slice A n c] w (TrPost bs w) := by
  have HBL := Lib.hid hr.blen
  have hn : n ≤ 549755813888 := by omega
  go_enter Tryz.func9, Tryz.ntmps9
  go_wp2_with fail
  have T0 : TRd w bs 0 0 0 none 0 [] (w.alloc (.cells (tcs none 0 0 0 0 none) 74)) := ⟨heap_alloc_new w _, OwnRI.nil _ _, RwOwn.nil _ _, rfl, by omega, by omega, ⟨bs.length + 1, by omega, rfl⟩, (Up.refl w).alloc _⟩
  unfold tcs at T0
  go_loopw [5] (fun i wr => ∃ (p k N : Nat) (R : Option Addr) (rc : Nat) (rs : List Rw), i = .int .i64 (p : Int) ∧ TRd w bs p k N R rc rs wr) (fun i _ => n - (intOf i).toNat)
  case atStart => exact ⟨0, 0, 0, none, 0, [], rfl, T0⟩
  case round =>
    obtain ⟨p, k, N, R, rc, rs, rfl, T⟩ := hrel
    clear T0
    obtain ⟨E, q, m, hT⟩ : ∃ E q m, takeB bs (p : Int) = (E, q, m) := ⟨_, _, _, rfl⟩
    have htk := btakeO_any A n c bs (p : Int) wr (hr.up T.up) hn hnc
    rw [hT] at htk
    have HTK := Lib.hid htk
    have HT := Lib.hid hT
    clear htk hT
    go_wp2_with fail
    refine HTK.out.mono ?_
    rintro e w1 ⟨Q, qn, qc, rfl, hQ, hu1⟩
    (try dsimp only at hQ ⊢)
    clear HTK
    by_cases hE : E = 0
    · subst hE
      have e1 : (((0 : Nat) : Int) != 0) = false := rfl
      obtain ⟨f, hf, hsc⟩ := T.sc
      obtain ⟨f', rfl⟩ : ∃ f', f = f' + 1 := ⟨f - 1, by omega⟩
      obtain ⟨m', rfl, s1, s2, s3, s4, s5⟩ := scan_step (f := f') HT.out
      have hql : qn = q.length := OwnI.ilen hQ
      have hT2 : ∃ f2, bs.length - m' < f2 ∧ rwl (rs ++ [⟨Q, qn, qc, q⟩]) ++ scanL f2 bs (m' : Int) = scanL (bs.length + 1) bs 0 := ⟨f', by omega, by rw [rwl_snoc, List.append_assoc]; rw [s5] at hsc; exact hsc⟩
      have hN2 : N + qn = (rwl (rs ++ [⟨Q, qn, qc, q⟩])).flatten.length := by rw [rwl_snoc, List.flatten_append, List.length_append, List.flatten_singleton, ← T.tot, hql]
      have hb2 : N + qn + 12 * (k + 1) ≤ m' := by have := T.bd; omega
      have hkb : k ≤ 549755813888 := by have := T.bd; have := T.pl; have := HBL.out; omega
      have hNb : N + qn ≤ 549755813888 := by have := HBL.out; omega
      have hpm : p < m' ∧ m' ≤ n := by have := HBL.out; omega
      have y1 : IntKind.i64.wrap ((N : Int) + (qn : Int)) = ((N + qn : Nat) : Int) := by rw [IntKind.wrap_i64]; omega
      have hup1 := T.up.trans hu1
      have hown1 := T.own.up hu1
      have hrw1 := T.rows.up hu1
      have hQ1 := own_base hQ T.up.size
      have hd1 := blk_up hu1 T.hd
      unfold tcs at hd1
      have c0 : w1.cell? ⟨w.heap.size, 0, none⟩ = some (.slice R k rc) := blk_cell hd1 0
      have hgl := (Array.getElem?_eq_some_iff.1 hd1).1
      have TK := fun (w5 : World) (o : Obj) (hg : (w1.alloc o).grownBy w5 (Value.slice R k rc).ownBlock) => tab_cells (tab_kept hown1 hd1 hg)
      have HT2 := Lib.hid hT2
      have HN2 := Lib.hid hN2
      have hm9 := s2
      obtain ⟨g, hg⟩ : ∃ g, g = w.heap.size := ⟨_, rfl⟩
      have HQL := Lib.hid hql
      clear s1 s3 s4 s5 hsc hf T hT2 hN2 hql HT hQ
      go_wp2_with (at_builtin; refine wpList_append_rd _ rowsIT (news := [Value.slice Q qn qc]) (World.ownsRow.alloc hown1 _) (Rd.box _ _ _) (by intro u hu; simp at hu; subst hu; rfl) (by omega) (by omega) (by simp; have := hup1.size; omega) rfl rfl rfl rfl ?_; intro v5 w5 hown5 hg5 hat5; obtain ⟨L5, lc5, rfl⟩ := own_form hown5; go_loud (obtain ⟨q0, z0, q1, z1, hfin⟩ := TK _ _ hg5))
      have hd5 := tab_kept hown1 hd1 hg5
      have hu5 : Up w w5 := (hup1.alloc _).grown hg5 (fun g hg => (hown1.lt g hg).1)
      have hrw5 : RwOwn w5 w.heap.size rs := fun r hr' => own_far (World.ownsRow.alloc hown1 _) ((hrw1.up ((Up.refl _).alloc _)) r hr') (by decide) hg5
      have hq5 : OwnI w5 w.heap.size Q qn qc q := own_far (World.ownsRow.alloc hown1 _) (World.ownsRow.alloc hQ1 _) (by decide) hg5
      have hrs5 := hrw5.snoc hq5
      have hK5 := setc_keeps w5 _ w.heap.size 1 (.int .i64 ((N + qn : Nat) : Int)) (setc_keeps w5 w5 w.heap.size 0 (.slice L5 (k + 1) lc5) (Rg.Keeps.refl _ _))
      have hown6 : OwnRI ((w5.setCell ⟨w.heap.size, 0, none⟩ (.slice L5 (k + 1) lc5)).setCell ⟨w.heap.size, 1, none⟩ (.int .i64 ((N + qn : Nat) : Int))) w.heap.size L5 (k + 1) lc5 (rs ++ [⟨Q, qn, qc, q⟩]) := OwnRI.snoc (own_block hown5 (fun g' cs hh => hK5.block g' (Array.getElem?_eq_some_iff.1 hh).1 (by
        intro e
        have e' : g' = w.heap.size := e
        subst e'
        rw [hd5] at hh
        injection hh with hh
        injection hh with _ hh
        exact absurd hh (by decide))))
      have hrs6 := RwOwn.others hrs5 hK5 (fun k hk => by have e' : k = w.heap.size := hk; subst e'; exact ⟨_, _, _, hd5, by decide⟩)
      have hup6 := keepsUpX hu5 (Nat.le_refl _) hK5
      have hfin2 := hfin (.slice L5 (k + 1) lc5) (.int .i64 ((N + qn : Nat) : Int))
      go_roundw
      case rel => exact ⟨m', k + 1, N + qn, L5, lc5, _, rfl, ⟨by unfold tcs; exact hfin2, hown6, hrs6, HN2.out, hb2, hm9, HT2.out, hup6⟩⟩
      case measure => simp [intOf] <;> omega
    · have e1 : ((E : Int) != 0) = true := by rw [bne_iff_ne]; omega
      have hup1 := T.up.trans hu1
      have hown1 := T.own.up hu1
      have hrw1 := T.rows.up hu1
      have hd1 := blk_up hu1 T.hd
      have hL : rwl rs = scanL (bs.length + 1) bs 0 := by
        obtain ⟨f, hf, hsc⟩ := T.sc
        obtain ⟨f', rfl⟩ : ∃ f', f = f' + 1 := ⟨f - 1, by omega⟩
        rw [scanL, HT.out, if_neg hE, List.append_nil] at hsc
        exact hsc
      have hNt := T.tot
      have hNb : N ≤ n := by have := T.bd; have := T.pl; have := HBL.out; omega
      have HLL := Lib.hid hL
      have HNT := Lib.hid hNt
      have hmb : rs.length ≤ n := by have := T.bd; have := T.pl; have := HBL.out; have := OwnRI.len T.own; omega
      have hkl := OwnRI.len T.own
      have hal := tall_any w.heap.size k rc N 0 R none rs w1 hd1 (OwnRI.rd hown1) hrw1.ok (by rw [flL_flat, ← hNt]; omega) (by omega)
      rw [flL_flat, ← hNt] at hal
      have HAL := Lib.hid hal
      clear T HT hQ hu1 hL hNt hal
      go_wp2_with fail
      refine HAL.out.mono ?_
      rintro e w2 ⟨A2, c2, rfl, hI, hu2⟩
      have hmk := make_any A2 N c2 _ w2 (Rd.own hI) (own_cap hI) (by omega)
      have HMK := Lib.hid hmk
      clear hmk HAL hI
      go_wp2_with fail
      refine HMK.out.mono ?_
      rintro e w3 ⟨A3, n3, c3, rfl, hB3, hu3⟩
      clear HMK
      have hup3 := (hup1.trans hu2).trans hu3
      have hd3 := blk_up hu3 (blk_up hu2 hd1)
      have hown3 := (hown1.up hu2).up hu3
      have hrw3 := (hrw1.up hu2).up hu3
      have hrA := hr.up hup3
      have hr3 := Rd.own hB3
      have hrd : readT bs = if makeE (rwl rs).flatten = 0 ∧ tabB (rwl rs).flatten = bs then some (rwl rs) else none := by unfold readT; rw [← HLL.out]
      have HRD := Lib.hid hrd
      clear hrd hB3 hown1 hrw1 hd1
      by_cases hme : makeE (rwl rs).flatten = 0
      · rw [hme]
        rw [show ((0 : Nat) : Int) = 0 from rfl]
        have hml : makeL (rwl rs).flatten = tabB (rwl rs).flatten := by unfold makeL; rw [if_pos hme]
        rw [hml] at hr3
        have HME := Lib.hid hme
        clear hme hml
        generalize tabB (rwl rs).flatten = tb at *
        go_wp2_with fail
        refine (beqs_any A3 n3 c3 tb A n c bs w3 hr3 hrA).mono ?_
        rintro e w4 ⟨rfl, rfl⟩
        by_cases htb : tb = bs
        · rw [decide_eq_true htb]
          have hyes : readT bs = some (rwl rs) := by rw [HRD.out, if_pos ⟨HME.out, htb⟩]
          have HYES := Lib.hid hyes
          clear hyes htb HRD hr3 hrA
          go_wp2_with fail
          refine bodyPost_ret (v := .tuple #[.pointer (some ⟨w.heap.size, 0, none⟩), .int .i64 0]) (by simp [results, Tryz.results9, go_sem]) rfl ?_
          unfold TrPost
          rw [HYES.out]
          exact ⟨w.heap.size, k, rc, N, R, rs, rfl, hd3, Nat.le_refl _, hown3, hrw3, rfl, HNT.out, hup3⟩
        · rw [decide_eq_false htb]
          have hno : readT bs = none := by rw [HRD.out, if_neg (fun h => htb h.2)]
          have HNO := Lib.hid hno
          clear hno htb HRD hr3 hrA
          go_wp2_with fail
          refine bodyPost_ret (v := .tuple #[.pointer none, .int .i64 9]) (by simp [results, Tryz.results9, go_sem]) rfl ?_
          unfold TrPost
          rw [HNO.out]
          exact ⟨rfl, hup3⟩
      · have e2 : ((makeE (rwl rs).flatten : Int) != 0) = true := by rw [bne_iff_ne]; omega
        have hno : readT bs = none := by rw [HRD.out, if_neg (fun h => hme h.1)]
        have HNO := Lib.hid hno
        clear hno hme
        go_wp2_with fail
        refine bodyPost_ret (v := .tuple #[.pointer none, .int .i64 9]) (by simp [results, Tryz.results9, go_sem]) rfl ?_
        unfold TrPost
        rw [HNO.out]
        exact ⟨rfl, hup3⟩
end Go.Proofs.YtfmjgkfblejknaaGreat

/-
  Tables, plain: which row has an item.
-/
namespace Go.Proofs.YtfmjgkfblejknaaGreat
open Go.RowKit
set_option linter.unusedVariables false
set_option linter.unusedSimpArgs false

theorem riseR_pw : ∀ {l : List It}, riseR l → l.Pairwise (fun a b => lessB a b = true)
  | [], _ => List.Pairwise.nil
  | a :: r, h => List.Pairwise.cons (riseR_all h) (riseR_pw (riseR_tail h))
/-- the last item of a row -/
def lastI (z : List It) : It := z.getLastD noIt
theorem lastI_at {z : List It} (h : 0 < z.length) : z[z.length - 1]? = some (lastI z) := by
  unfold lastI
  rw [List.getLastD_eq_getLast?, List.getLast?_eq_getElem?]
  rw [List.getElem?_eq_getElem (by omega)]; rfl
/-- which row is the first whose last item is not below x -/
def geR (x : It) : List (List It) → Nat
  | [] => 0
  | z :: r => if lessB (lastI z) x = true then geR x r + 1 else 0
theorem geR_step {x : It} : ∀ {l : List (List It)} {k : Nat} (h : k < l.length), k ≤ geR x l → (lessB (lastI l[k]) x = true → k + 1 ≤ geR x l) ∧ (lessB (lastI l[k]) x = false → k = geR x l)
  | [], k, h, _ => absurd h (Nat.not_lt_zero _)
  | y :: r, 0, h, _ => by
    unfold geR
    simp only [List.getElem_cons_zero]
    exact ⟨fun h1 => by rw [if_pos h1]; omega, fun h1 => by rw [if_neg (by rw [h1]; simp)]⟩
  | y :: r, k + 1, h, hk => by
    unfold geR at hk ⊢
    by_cases hy : lessB (lastI y) x = true
    · rw [if_pos hy] at hk ⊢
      have ih := geR_step (x := x) (l := r) (k := k) (by simpa using h) (by omega)
      simp only [List.getElem_cons_succ]
      exact ⟨fun h1 => by have := ih.1 h1; omega, fun h1 => by have := ih.2 h1; omega⟩
    · rw [if_neg hy] at hk; omega
theorem geR_le (x : It) : ∀ l : List (List It), geR x l ≤ l.length
  | [] => Nat.le_refl _
  | z :: r => by
    unfold geR
    have := geR_le x r
    split <;> simp <;> omega
theorem last_ge {z : List It} (hz : z.Pairwise (fun a b => lessB a b = true)) {y : It} (hy : y ∈ z) : y = lastI z ∨ lessB y (lastI z) = true := by
  have h0 : z ≠ [] := List.ne_nil_of_mem hy
  have e := List.dropLast_concat_getLast h0
  have hl : lastI z = z.getLast h0 := by unfold lastI; rw [List.getLastD_eq_getLast?, List.getLast?_eq_some_getLast h0]; rfl
  rw [← hl] at e
  rw [← e] at hz hy
  rcases List.mem_append.1 hy with h | h
  · right
    exact (List.pairwise_append.1 hz).2.2 y h _ (List.mem_singleton_self _)
  · left; exact List.mem_singleton.1 h
theorem findL_no {l : List It} {x : It} (h : ∀ y ∈ l, sameB y x = false) : findL l x = none := by
  unfold findL
  rw [List.find?_eq_none]
  exact fun y hy => by rw [h y hy]; simp
theorem find_rows (x : It) : ∀ L : List (List It), riseR L.flatten → (∀ z ∈ L, 0 < z.length) → findL L.flatten x = (if h : geR x L < L.length then findL L[geR x L] x else none)
  | [], _, _ => rfl
  | z :: L, hr, h0 => by
    have hpw := riseR_pw hr
    rw [List.flatten_cons] at hpw ⊢
    have hp := List.pairwise_append.1 hpw
    have hzl := h0 z List.mem_cons_self
    have hlm : lastI z ∈ z := List.mem_of_getElem? (lastI_at hzl)
    have hap : findL (z ++ L.flatten) x = (findL z x).or (findL L.flatten x) := by unfold findL; exact List.find?_append
    rw [hap]
    by_cases hl : lessB (lastI z) x = true
    · have hz : findL z x = none := findL_no fun y hy => by
        have h1 : lessB y x = true := by
          rcases last_ge hp.1 hy with h | h
          · rw [h]; exact hl
          · exact less_trans h hl
        rw [← Bool.not_eq_true, same_iff]; rw [less_iff] at h1; omega
      have hrt : ∀ (z L : List It), riseR (z ++ L) → riseR L := by
        intro z
        induction z with
        | nil => exact fun L h => h
        | cons a z ih => exact fun L h => ih L (riseR_tail h)
      have ih := find_rows x L (hrt z L.flatten (by rw [List.flatten_cons] at hr; exact hr)) (fun y hy => h0 y (List.mem_cons_of_mem _ hy))
      have e1 : geR x (z :: L) = geR x L + 1 := by rw [show geR x (z :: L) = if lessB (lastI z) x = true then geR x L + 1 else 0 from rfl, if_pos hl]
      rw [hz, Option.none_or, ih]
      simp only [e1, List.length_cons, Nat.add_lt_add_iff_right, List.getElem_cons_succ]
    · have e1 : geR x (z :: L) = 0 := by rw [show geR x (z :: L) = if lessB (lastI z) x = true then geR x L + 1 else 0 from rfl, if_neg hl]
      have hR : findL L.flatten x = none := findL_no fun y hy => by
        have h1 := hp.2.2 _ hlm y hy
        rw [← Bool.not_eq_true, same_iff]; rw [less_iff] at h1 hl; omega
      simp only [e1, List.length_cons, Nat.zero_lt_succ, dite_true, List.getElem_cons_zero, hR, Option.or_none]
/-- the first and the last of all -/
theorem flat_first {L : List (List It)} {z : List It} {r : List (List It)} (h : L = z :: r) (hz : 0 < z.length) : L.flatten[0]? = z[0]? := by
  subst h
  rw [List.flatten_cons, List.getElem?_append_left hz]
theorem flat_last {L : List (List It)} (h : 0 < L.length) (hz : ∀ z ∈ L, 0 < z.length) : 0 < L.flatten.length ∧ lastI L.flatten = lastI L[L.length - 1] := by
  have h0 : L ≠ [] := fun e => by rw [e] at h; simp at h
  have e := List.dropLast_concat_getLast h0
  have h1 : L[L.length - 1] = L.getLast h0 := (List.getLast_eq_getElem h0).symm
  have h2 := hz (L.getLast h0) (List.getLast_mem h0)
  rw [h1]
  generalize L.getLast h0 = y at *
  generalize L.dropLast = M at *
  rw [← e, List.flatten_append, List.flatten_singleton]
  refine ⟨by rw [List.length_append]; omega, ?_⟩
  unfold lastI
  have hy : y ≠ [] := fun e => by rw [e] at h2; simp at h2
  rw [List.getLastD_eq_getLast?, List.getLastD_eq_getLast?, List.getLast?_append, List.getLast?_eq_some_getLast hy]
  rfl
end Go.Proofs.YtfmjgkfblejknaaGreat
