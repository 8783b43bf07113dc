/-
  Plain laws of numbers as bytes.
-/
import Derived.Test.YtnbdijifhimogaaNum
namespace Go.Proofs.Ytnbdijifhimogaa
open Go.RowKit
set_option linter.unusedVariables false

theorem pow_split (x i : Nat) : x % 128 * 128 ^ i + x / 128 * 128 ^ (i + 1) = x * 128 ^ i := by
  have h := Nat.mod_add_div x 128
  calc x % 128 * 128 ^ i + x / 128 * 128 ^ (i + 1) = (x % 128 + 128 * (x / 128)) * 128 ^ i := by rw [Nat.pow_succ, Nat.add_mul]; congr 1; rw [Nat.mul_comm 128, Nat.mul_assoc, Nat.mul_comm 128]
    _ = x * 128 ^ i := by rw [h]
theorem takeGo_numB (r : List UInt8) : ∀ (n x i acc : Nat), x ≤ n → i ≤ 9 → x < 2 ^ (64 - 7 * i) → (0 < i → 0 < x) → takeGo (numB x ++ r) i acc = (acc + x * 128 ^ i, i + (numB x).length, 0) := by
  intro n
  induction n with
  | zero =>
    intro x i acc hx hi h1 h2
    have h0 : x = 0 := by omega
    subst h0
    have : i = 0 := by rcases Nat.eq_zero_or_pos i with h | h; exact h; exact absurd (h2 h) (by omega)
    subst this
    rw [numB_lo (by omega)]
    exact takeGo_end (by simp) (by decide)
  | succ n ih =>
    intro x i acc hx hi h1 h2
    by_cases hlt : x < 128
    · rw [numB_lo hlt]
      have e : (UInt8.ofNat x).toNat = x := by simp; omega
      rw [List.cons_append, List.nil_append, takeGo_end, e]
      · rw [Nat.mod_eq_of_lt hlt]; rfl
      · rw [e]
        rintro (⟨h9, hx1⟩ | ⟨h0, hx0⟩)
        · subst h9; simp at h1; omega
        · have := h2 h0; omega
      · rw [e]; exact hlt
    · rw [numB_hi hlt]
      have e : (UInt8.ofNat (x % 128 + 128)).toNat = x % 128 + 128 := by simp; omega
      have h8 : i ≤ 8 := by
        rcases Nat.lt_or_ge i 9 with h | h
        · omega
        · have : i = 9 := by omega
          subst this; simp at h1; omega
      rw [List.cons_append, takeGo_more, e, ih (x / 128) (i + 1) _ (by omega) (by omega) ?_ (fun _ => by omega)]
      · rw [show (x % 128 + 128) % 128 = x % 128 by omega, Nat.add_assoc, pow_split, List.length_cons]
        simp only [Prod.mk.injEq, and_true, true_and]; omega
      · rw [Nat.div_lt_iff_lt_mul (by decide), show (128 : Nat) = 2 ^ 7 from rfl, ← Nat.pow_add]
        rw [show 64 - 7 * (i + 1) + 7 = 64 - 7 * i by omega]; exact h1
      · rw [e]; omega
      · rw [e]; omega
theorem takeL_numB (x : Nat) (r : List UInt8) (hx : x < 18446744073709551616) : takeL (numB x ++ r) = (x, (numB x).length, 0) := by
  have := takeGo_numB r x x 0 0 (Nat.le_refl _) (by omega) (by simpa using hx) (fun h => absurd h (by omega))
  unfold takeL
  rw [this]; simp
theorem takeL_nil : takeL [] = (0, 0, 4) := rfl
theorem numsB_drop (q : List UInt64) (k : Nat) : (numsB q).drop (numsB (q.take k)).length = numsB (q.drop k) := by
  have : numsB q = numsB (q.take k) ++ numsB (q.drop k) := by unfold numsB; rw [← List.flatMap_append, List.take_append_drop]
  rw [this, List.drop_left]
theorem numsB_cons (x : UInt64) (q : List UInt64) : numsB (x :: q) = numB x.toNat ++ numsB q := by simp [numsB]
theorem foldN_eightB (x : Nat) (hx : x < 18446744073709551616) : foldN (eightB x) = x := by
  have e : eightB x = [UInt8.ofNat (x / 2 ^ 56), UInt8.ofNat (x / 2 ^ 48), UInt8.ofNat (x / 2 ^ 40), UInt8.ofNat (x / 2 ^ 32), UInt8.ofNat (x / 2 ^ 24), UInt8.ofNat (x / 2 ^ 16), UInt8.ofNat (x / 2 ^ 8), UInt8.ofNat (x / 2 ^ 0)] := rfl
  rw [e]
  simp only [foldN, List.foldl_cons, List.foldl_nil, UInt8.toNat_ofNat']
  omega
theorem uneightL_eightB (x : Nat) (hx : x < 18446744073709551616) : uneightL (eightB x) = (x, 0) := by
  unfold uneightL
  rw [eightB_len, if_neg (by omega), List.take_of_length_le (by rw [eightB_len]; omega), foldN_eightB x hx]
theorem numB_inj {a b : Nat} (ha : a < 18446744073709551616) (hb : b < 18446744073709551616) (h : numB a = numB b) : a = b := by
  have h1 := takeL_numB a [] ha
  have h2 := takeL_numB b [] hb
  rw [h, h2] at h1
  exact (Prod.mk.inj h1).1.symm
theorem numB_mono : ∀ (n a b : Nat), b ≤ n → a ≤ b → (numB a).length ≤ (numB b).length := by
  intro n
  induction n with
  | zero => intro a b hb hab; rw [show a = b by omega]; exact Nat.le_refl _
  | succ n ih =>
    intro a b hb hab
    by_cases h1 : a < 128
    · rw [numB_lo h1]; exact numB_pos b
    · rw [numB_hi h1, numB_hi (show ¬ b < 128 by omega)]
      have := ih (a / 128) (b / 128) (by omega) (Nat.div_le_div_right hab)
      simp only [List.length_cons]; omega
/-- what bytes come to as one number, the highest first -/
def valB : List UInt8 → Nat
  | [] => 0
  | c :: r => c.toNat * 256 ^ r.length + valB r
theorem valB_lt (l : List UInt8) : valB l < 256 ^ l.length := by
  induction l with
  | nil => simp [valB]
  | cons c r ih =>
    have hc := c.toNat_lt
    have h1 : c.toNat * 256 ^ r.length ≤ 255 * 256 ^ r.length := Nat.mul_le_mul_right _ (by omega)
    simp only [valB, List.length_cons, Nat.pow_succ]; omega
theorem foldl_valB (l : List UInt8) : ∀ a : Nat, l.foldl (fun a c => a * 256 + c.toNat) a = a * 256 ^ l.length + valB l := by
  induction l with
  | nil => intro a; simp [valB]
  | cons c r ih =>
    intro a
    rw [List.foldl_cons, ih, valB, List.length_cons, Nat.pow_succ, Nat.add_mul, Nat.mul_assoc, Nat.mul_comm 256, Nat.add_assoc]
theorem foldN_valB (l : List UInt8) : foldN l = valB l := by unfold foldN; rw [foldl_valB]; simp
theorem less_valB : ∀ (l m : List UInt8), l.length = m.length → Op.bytesLess l m = decide (valB l < valB m)
  | [], [], _ => by simp [Op.bytesLess]
  | c :: r, d :: s, h => by
    have hl : r.length = s.length := by simpa using h
    have ih := less_valB r s hl
    have h1 := valB_lt r
    have h2 := valB_lt s
    rw [hl] at h1
    simp only [Op.bytesLess, valB, ih, hl]
    by_cases hcd : c < d
    · have hcd' : c.toNat < d.toNat := UInt8.lt_iff_toNat_lt.1 hcd
      have hm : (c.toNat + 1) * 256 ^ s.length ≤ d.toNat * 256 ^ s.length := Nat.mul_le_mul_right _ hcd'
      rw [Nat.add_mul] at hm
      have : c.toNat * 256 ^ s.length + valB r < d.toNat * 256 ^ s.length + valB s := by omega
      simp [hcd, this]
    · by_cases he : c = d
      · subst he; simp
      · have hcd' : d.toNat < c.toNat := by
          have h3 : ¬ c.toNat < d.toNat := fun h => hcd (UInt8.lt_iff_toNat_lt.2 h)
          have h4 : c.toNat ≠ d.toNat := fun h => he (UInt8.toNat_inj.1 h)
          omega
        have hm : (d.toNat + 1) * 256 ^ s.length ≤ c.toNat * 256 ^ s.length := Nat.mul_le_mul_right _ hcd'
        rw [Nat.add_mul] at hm
        have : ¬ c.toNat * 256 ^ s.length + valB r < d.toNat * 256 ^ s.length + valB s := by omega
        simp [hcd, he, this]
theorem less_eightB {a b : Nat} (ha : a < 18446744073709551616) (hb : b < 18446744073709551616) : Op.bytesLess (eightB a) (eightB b) = decide (a < b) := by
  rw [less_valB _ _ (by rw [eightB_len, eightB_len]), ← foldN_valB, ← foldN_valB, foldN_eightB a ha, foldN_eightB b hb]
theorem eightB_inj {a b : Nat} (ha : a < 18446744073709551616) (hb : b < 18446744073709551616) (h : eightB a = eightB b) : a = b := by
  rw [← foldN_eightB a ha, ← foldN_eightB b hb, h]
/-! ### lists -/
theorem takeGo_cut : ∀ (n x j i acc : Nat), x ≤ n → i ≤ 9 → x < 2 ^ (64 - 7 * i) → (0 < i → 0 < x) → j < (numB x).length → takeGo ((numB x).take j) i acc = (0, 0, 4) := by
  intro n
  induction n with
  | zero =>
    intro x j i acc hx hi h1 h2 hj
    have h0 : x = 0 := by omega
    subst h0
    rw [numB_lo (by omega)] at hj ⊢
    have : j = 0 := by simpa using hj
    subst this
    rfl
  | succ n ih =>
    intro x j i acc hx hi h1 h2 hj
    by_cases hlt : x < 128
    · rw [numB_lo hlt] at hj ⊢
      have : j = 0 := by simpa using hj
      subst this
      rfl
    · rw [numB_hi hlt] at hj ⊢
      have e : (UInt8.ofNat (x % 128 + 128)).toNat = x % 128 + 128 := by simp; omega
      have h8 : i ≤ 8 := by
        rcases Nat.lt_or_ge i 9 with h | h
        · omega
        · have : i = 9 := by omega
          subst this; simp at h1; omega
      cases j with
      | zero => rfl
      | succ j =>
        rw [List.take_succ_cons, takeGo_more, e]
        · refine ih (x / 128) j (i + 1) _ (by omega) (by omega) ?_ (fun _ => by omega) (by simpa using hj)
          rw [Nat.div_lt_iff_lt_mul (by decide), show (128 : Nat) = 2 ^ 7 from rfl, ← Nat.pow_add]
          rw [show 64 - 7 * (i + 1) + 7 = 64 - 7 * i by omega]; exact h1
        · rw [e]; omega
        · rw [e]; omega
theorem takeL_cut {x j : Nat} (hx : x < 18446744073709551616) (hj : j < (numB x).length) : takeL ((numB x).take j) = (0, 0, 4) :=
  takeGo_cut x x j 0 0 (Nat.le_refl _) (by omega) (by simpa using hx) (fun h => absurd h (by omega)) hj
theorem unGo_full (q : List UInt64) : ∀ (pre r : List UInt8) (acc : List UInt64), unGo q.length (pre ++ (numsB q ++ r)) pre.length acc = (acc ++ q, pre.length + (numsB q).length, 0) := by
  induction q with
  | nil => intro pre r acc; simp [unGo, numsB]
  | cons x q ih =>
    intro pre r acc
    rw [List.length_cons, unGo, List.drop_left, numsB_cons, List.append_assoc, takeL_numB _ _ x.toNat_lt]
    have h := ih (pre ++ numB x.toNat) r (acc ++ [UInt64.ofNat x.toNat])
    rw [List.length_append, List.append_assoc] at h
    simp only [if_true]
    rw [h]
    simp [Nat.add_assoc]
theorem unGo_cut (q : List UInt64) : ∀ (pre : List UInt8) (j : Nat) (acc : List UInt64), j < (numsB q).length → unGo q.length (pre ++ (numsB q).take j) pre.length acc = ([], 0, 4) := by
  induction q with
  | nil => intro pre j acc h; simp [numsB] at h
  | cons x q ih =>
    intro pre j acc hj
    rw [numsB_cons] at hj ⊢
    rw [List.length_cons, unGo, List.drop_left]
    by_cases h : j < (numB x.toNat).length
    · rw [List.take_append_of_le_length (by omega), takeL_cut x.toNat_lt h]; simp
    · have e : (numB x.toNat ++ numsB q).take j = numB x.toNat ++ (numsB q).take (j - (numB x.toNat).length) := by
        rw [List.take_append]
        rw [List.take_of_length_le (by omega)]
      rw [e, takeL_numB _ _ x.toNat_lt]
      have h2 := ih (pre ++ numB x.toNat) (j - (numB x.toNat).length) (acc ++ [UInt64.ofNat x.toNat]) (by rw [List.length_append] at hj; omega)
      rw [List.length_append, List.append_assoc] at h2
      simp only [if_true]
      exact h2
theorem unlist_full (q : List UInt64) (r : List UInt8) (most : Int) (hq : q.length < 18446744073709551616) (hm : (q.length : Int) ≤ most) : unlistL (listB q ++ r) most = (q, (listB q).length, 0) := by
  unfold unlistL listB
  rw [List.append_assoc, takeL_numB _ _ hq]
  rw [if_neg (by simp), if_neg (by split <;> omega)]
  rw [unGo_full]
  simp
theorem unlist_long (q : List UInt64) (r : List UInt8) (most : Int) (hq : q.length < 18446744073709551616) (hm : most < (q.length : Int)) (h0 : 0 < q.length) : unlistL (listB q ++ r) most = ([], 0, 2) := by
  unfold unlistL listB
  rw [List.append_assoc, takeL_numB _ _ hq]
  rw [if_neg (by simp), if_pos (by split <;> omega)]
theorem unlist_cut (q : List UInt64) (j : Nat) (most : Int) (hq : q.length < 18446744073709551616) (hm : (q.length : Int) ≤ most) (hj : j < (listB q).length) : unlistL ((listB q).take j) most = ([], 0, 4) := by
  unfold unlistL
  by_cases h : j < (numB q.length).length
  · have e : (listB q).take j = (numB q.length).take j := by unfold listB; rw [List.take_append_of_le_length (by omega)]
    rw [e, takeL_cut hq h]; simp
  · have e : (listB q).take j = numB q.length ++ (numsB q).take (j - (numB q.length).length) := by
      unfold listB; rw [List.take_append, List.take_of_length_le (by omega)]
    rw [e, takeL_numB _ _ hq, if_neg (by simp), if_neg (by split <;> omega)]
    exact unGo_cut q _ _ _ (by unfold listB at hj; rw [List.length_append] at hj; omega)
theorem listB_pos (q : List UInt64) : 1 ≤ (listB q).length := by unfold listB; rw [List.length_append]; have := numB_pos q.length; omega
theorem listB_len (q : List UInt64) (hq : q.length < 18446744073709551616) : (listB q).length ≤ 10 + 10 * q.length := by
  unfold listB; rw [List.length_append]; have := numB_ten hq; have := numsB_len q; omega

theorem unGo_len : ∀ (k : Nat) (l : List UInt8) (a : Nat) (acc : List UInt64), (unGo k l a acc).1.length ≤ acc.length + (l.length - a)
  | 0, l, a, acc => by simp only [unGo]; omega
  | k + 1, l, a, acc => by
    rw [unGo]
    split
    · rename_i h
      have h2 := takeL_ok h
      have h3 := unGo_len k l (a + (takeL (l.drop a)).2.1) (acc ++ [UInt64.ofNat (takeL (l.drop a)).1])
      simp only [List.length_append, List.length_singleton, List.length_drop] at h2 h3
      omega
    · simp
theorem unlistL_len (l : List UInt8) (most : Int) : (unlistL l most).1.length ≤ l.length := by
  have h := unGo_len (takeL l).1 l (takeL l).2.1 []
  simp only [List.length_nil] at h
  unfold unlistL
  by_cases h1 : (takeL l).2.2 ≠ 0
  · rw [if_pos h1]; simp
  · rw [if_neg h1]
    by_cases h2 : (if most < 0 then 0 else most) < ((takeL l).1 : Int)
    · rw [if_pos h2]; simp
    · rw [if_neg h2]; omega

/-! ### numbers that are none -/
/-- a byte more than is needed: the last byte's highest bit set, nought behind it -/
theorem takeGo_more0 : ∀ (n x i acc : Nat), x ≤ n → ∀ l c, numB x = l ++ [c] → takeGo (l ++ [UInt8.ofNat (c.toNat % 128 + 128), 0]) i acc = (0, 0, 3) := by
  intro n
  induction n with
  | zero =>
    intro x i acc hx l c h
    rw [numB_lo (by omega)] at h
    cases l with
    | nil => exact step0 i acc _
    | cons d l => have := congrArg List.length h; simp at this
  | succ n ih =>
    intro x i acc hx l c h
    by_cases hlt : x < 128
    · rw [numB_lo hlt] at h
      cases l with
      | nil => exact step0 i acc _
      | cons d l => have := congrArg List.length h; simp at this
    · rw [numB_hi hlt] at h
      cases l with
      | nil =>
        have h1 := numB_pos (x / 128)
        have := congrArg List.length h; simp at this
        rw [this] at h1; simp at h1
      | cons d l =>
        rw [List.cons_append, List.cons.injEq] at h
        obtain ⟨rfl, h2⟩ := h
        rw [List.cons_append]
        by_cases hf : (i = 9 ∧ 1 < (UInt8.ofNat (x % 128 + 128)).toNat) ∨ (0 < i ∧ (UInt8.ofNat (x % 128 + 128)).toNat = 0)
        · exact takeGo_form hf
        · rw [takeGo_more hf (by simp; omega)]
          exact ih (x / 128) _ _ (by omega) l c h2
where
  step0 (i acc : Nat) (c : UInt8) : takeGo ([] ++ [UInt8.ofNat (c.toNat % 128 + 128), 0]) i acc = (0, 0, 3) := by
    rw [List.nil_append]
    by_cases hf : (i = 9 ∧ 1 < (UInt8.ofNat (c.toNat % 128 + 128)).toNat) ∨ (0 < i ∧ (UInt8.ofNat (c.toNat % 128 + 128)).toNat = 0)
    · exact takeGo_form hf
    · rw [takeGo_more hf (by simp; omega)]
      exact takeGo_form (.inr ⟨by omega, rfl⟩)
theorem takeL_more0 {x : Nat} {l : List UInt8} {c : UInt8} (h : numB x = l ++ [c]) : takeL (l ++ [UInt8.ofNat (c.toNat % 128 + 128), 0]) = (0, 0, 3) :=
  takeGo_more0 x x 0 0 (Nat.le_refl _) l c h
theorem takeL_great (c : UInt8) (h : 1 < c.toNat) : takeL [255, 255, 255, 255, 255, 255, 255, 255, 255, c] = (0, 0, 3) := by
  unfold takeL
  iterate 9 (rw [takeGo_more (by decide) (by decide)])
  exact takeGo_form (.inl ⟨rfl, h⟩)

/-! ### a mask -/
theorem i64_and_le (a : Int) (m : Nat) (hm : m < 9223372036854775808) : ∃ k : Nat, bits .and .i64 a (m : Int) = (k : Int) ∧ k ≤ m := by
  refine ⟨(BitVec.ofInt 64 a).toNat &&& m, ?_, Nat.and_le_right⟩
  have hk : (BitVec.ofInt 64 a).toNat &&& m ≤ m := Nat.and_le_right
  show IntKind.i64.wrap ((BitVec.ofInt 64 a &&& BitVec.ofInt 64 (m : Int)).toNat : Int) = _
  rw [BitVec.toNat_and, ofInt_u64 m (by omega), IntKind.wrap_i64]
  omega
end Go.Proofs.Ytnbdijifhimogaa
