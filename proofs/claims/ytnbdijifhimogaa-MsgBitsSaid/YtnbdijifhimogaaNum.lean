/-
  Plain: numbers as bytes: groups of seven bits (numB), eight bytes (eightB).
-/
import Derived.Test.YtnbdijifhimogaaBase
namespace Go.Proofs.Ytnbdijifhimogaa
open Go.RowKit
set_option linter.unusedVariables false

/-- a number in groups of seven bits, the lowest first -/
def numB (n : Nat) : List UInt8 := if n < 128 then [UInt8.ofNat n] else UInt8.ofNat (n % 128 + 128) :: numB (n / 128)
termination_by n
decreasing_by omega

theorem numB_lo {n : Nat} (h : n < 128) : numB n = [UInt8.ofNat n] := by rw [numB, if_pos h]
theorem numB_hi {n : Nat} (h : ¬ n < 128) : numB n = UInt8.ofNat (n % 128 + 128) :: numB (n / 128) := by rw [numB, if_neg h]
theorem numB_pos (n : Nat) : 1 ≤ (numB n).length := by
  rw [numB]; split <;> simp
theorem numB_len (k : Nat) : ∀ n, n < 128 ^ (k + 1) → (numB n).length ≤ k + 1 := by
  induction k with
  | zero => intro n h; rw [numB_lo (by simpa using h)]; simp
  | succ k ih =>
    intro n h
    by_cases hn : n < 128
    · rw [numB_lo hn]; simp
    · rw [numB_hi hn]
      have := ih (n / 128) (by rw [Nat.div_lt_iff_lt_mul (by decide)]; rw [Nat.pow_succ] at h; exact h)
      simp only [List.length_cons]; omega
theorem numB_ten {n : Nat} (h : n < 18446744073709551616) : (numB n).length ≤ 10 := numB_len 9 n (Nat.lt_of_lt_of_le h (by decide))

/-- what Take finds in what is left, i bytes behind the beginning, acc gathered: the number, its bytes, the error -/
def takeGo : List UInt8 → Nat → Nat → Nat × Nat × Nat
  | [], _, _ => (0, 0, 4)
  | c :: r, i, acc =>
    if (i = 9 ∧ 1 < c.toNat) ∨ (0 < i ∧ c.toNat = 0) then (0, 0, 3)
    else if c.toNat < 128 then (acc + c.toNat % 128 * 128 ^ i, i + 1, 0)
    else takeGo r (i + 1) (acc + c.toNat % 128 * 128 ^ i)
def takeL (l : List UInt8) : Nat × Nat × Nat := takeGo l 0 0

theorem pow_le9 {i : Nat} (hi : i ≤ 9) : 128 ^ i ≤ 9223372036854775808 := by
  have : (128 : Nat) ^ i ≤ 128 ^ 9 := Nat.pow_le_pow_right (by decide) hi
  simpa using this
theorem take_step {acc i ch : Nat} (ha : acc < 128 ^ i) : acc + ch % 128 * 128 ^ i < 128 ^ (i + 1) := by
  have h1 : ch % 128 * 128 ^ i ≤ 127 * 128 ^ i := Nat.mul_le_mul_right _ (by omega)
  rw [Nat.pow_succ]; omega
theorem take_fit {acc i ch : Nat} (hi : i ≤ 9) (ha : acc < 128 ^ i) (h9 : i = 9 → ch ≤ 1) : acc + ch % 128 * 128 ^ i < 18446744073709551616 := by
  by_cases h : i = 9
  · subst h
    have h1 : ch % 128 * 128 ^ 9 ≤ 1 * 128 ^ 9 := Nat.mul_le_mul_right _ (by have := h9 rfl; omega)
    have e : (128 : Nat) ^ 9 = 9223372036854775808 := by decide
    rw [e] at *; omega
  · have := take_step (ch := ch) ha
    have h2 := pow_le9 (i := i + 1) (by omega)
    omega
/-- the number that a byte's turn of Take's loop comes to, as the walk spells it -/
theorem take_val {acc i : Nat} {ch : UInt8} (hi : i ≤ 9) (ha : acc < 128 ^ i) (h9 : i = 9 → ch.toNat ≤ 1) :
    bits .or .u64 (acc : Int) (IntKind.u64.wrap (IntKind.u64.wrap (bits .and .u8 (ch.toNat : Int) 127) * 2 ^ (7 * i))) = ((acc + ch.toNat % 128 * 128 ^ i : Nat) : Int) := by
  have hf := take_fit hi ha h9
  have hc : ch.toNat < 256 := ch.toNat_lt
  have e1 : bits .and .u8 (ch.toNat : Int) 127 = ((ch.toNat % 128 : Nat) : Int) := by
    rw [show (127 : Int) = ((127 : Nat) : Int) from rfl, u8_and_nat _ _ hc (by decide), nat_mask7]
  have e2 : (2 : Int) ^ (7 * i) = ((128 ^ i : Nat) : Int) := by rw [Int.natCast_pow, show ((128 : Nat) : Int) = 2 ^ 7 from rfl, ← Int.pow_mul]
  have e3 : IntKind.u64.wrap ((ch.toNat % 128 : Nat) : Int) = ((ch.toNat % 128 : Nat) : Int) := by
    rw [IntKind.wrap_u64]; omega
  rw [e1, e3, e2, ← Int.natCast_mul]
  have e4 : IntKind.u64.wrap ((ch.toNat % 128 * 128 ^ i : Nat) : Int) = ((ch.toNat % 128 * 128 ^ i : Nat) : Int) := by
    rw [IntKind.wrap_u64]; omega
  rw [e4, u64_or_nat _ _ (by omega) (by omega), Nat.or_comm, nat_join (7 * i), Nat.add_comm]
  · rw [Nat.pow_mul]; exact Nat.mul_mod_left _ _
  · rw [Nat.pow_mul]; exact ha

theorem take_val9 {acc : Nat} {ch : UInt8} (ha : acc < 128 ^ 9) (h9 : ch.toNat ≤ 1) :
    bits .or .u64 (acc : Int) (IntKind.u64.wrap (IntKind.u64.wrap (bits .and .u8 (ch.toNat : Int) 127) * 9223372036854775808)) = ((acc + ch.toNat % 128 * 128 ^ 9 : Nat) : Int) := by
  rw [← take_val (i := 9) (by omega) ha (fun _ => h9), show (2 : Int) ^ (7 * 9) = 9223372036854775808 by decide]
theorem rtake_val {acc i : Nat} {ch : UInt8} (hi : i ≤ 9) (ha : acc < 128 ^ i) (h9 : i = 9 → ch.toNat ≤ 1) :
    bits .or .u64 (acc : Int) (IntKind.u64.wrap (bits .and .u64 (ch.toNat : Int) 127 * 2 ^ (7 * i))) = ((acc + ch.toNat % 128 * 128 ^ i : Nat) : Int) := by
  rw [← take_val hi ha h9]
  have hc : ch.toNat < 256 := ch.toNat_lt
  have e1 : bits .and .u8 (ch.toNat : Int) 127 = ((ch.toNat % 128 : Nat) : Int) := by
    rw [show (127 : Int) = ((127 : Nat) : Int) from rfl, u8_and_nat _ _ hc (by decide), nat_mask7]
  have e2 : bits .and .u64 (ch.toNat : Int) 127 = ((ch.toNat % 128 : Nat) : Int) := by
    rw [show (127 : Int) = ((127 : Nat) : Int) from rfl, u64_and_nat _ _ (by omega) (by decide), nat_mask7]
  have e3 : IntKind.u64.wrap ((ch.toNat % 128 : Nat) : Int) = ((ch.toNat % 128 : Nat) : Int) := by
    rw [IntKind.wrap_u64]; omega
  rw [e1, e2, e3]
theorem rtake_val9 {acc : Nat} {ch : UInt8} (ha : acc < 128 ^ 9) (h9 : ch.toNat ≤ 1) :
    bits .or .u64 (acc : Int) (IntKind.u64.wrap (bits .and .u64 (ch.toNat : Int) 127 * 9223372036854775808)) = ((acc + ch.toNat % 128 * 128 ^ 9 : Nat) : Int) := by
  rw [← rtake_val (i := 9) (by omega) ha (fun _ => h9), show (2 : Int) ^ (7 * 9) = 9223372036854775808 by decide]
theorem byte0 (ch : UInt8) : (((ch.toNat : Int) == 0) = true → ch.toNat = 0) ∧ (((ch.toNat : Int) == 0) = false → 0 < ch.toNat) := by
  constructor
  · intro h; have := beq_iff_eq.1 h; omega
  · intro h; have := beq_eq_false_iff_ne.1 h; omega

theorem takeGo_form {c : UInt8} {r : List UInt8} {i acc : Nat} (h : (i = 9 ∧ 1 < c.toNat) ∨ (0 < i ∧ c.toNat = 0)) : takeGo (c :: r) i acc = (0, 0, 3) := by rw [takeGo, if_pos h]
theorem takeGo_end {c : UInt8} {r : List UInt8} {i acc : Nat} (h : ¬ ((i = 9 ∧ 1 < c.toNat) ∨ (0 < i ∧ c.toNat = 0))) (h2 : c.toNat < 128) : takeGo (c :: r) i acc = (acc + c.toNat % 128 * 128 ^ i, i + 1, 0) := by rw [takeGo, if_neg h, if_pos h2]
theorem takeGo_more {c : UInt8} {r : List UInt8} {i acc : Nat} (h : ¬ ((i = 9 ∧ 1 < c.toNat) ∨ (0 < i ∧ c.toNat = 0))) (h2 : ¬ c.toNat < 128) : takeGo (c :: r) i acc = takeGo r (i + 1) (acc + c.toNat % 128 * 128 ^ i) := by rw [takeGo, if_neg h, if_neg h2]

/-! ### signs -/
def signN (n : Int) : Nat := if n < 0 then (-(n + 1)).toNat * 2 + 1 else n.toNat * 2
def unsignZ (n : Nat) : Int := if n % 2 = 0 then ((n / 2 : Nat) : Int) else -((n / 2 : Nat) : Int) - 1
theorem xor_ones (a : Nat) (ha : a < 18446744073709551616) : bits .xor .u64 (a : Int) 18446744073709551615 = ((18446744073709551615 - a : Nat) : Int) := by
  rw [show (18446744073709551615 : Int) = ((18446744073709551615 : Nat) : Int) from rfl, u64_xor_nat _ _ ha (by decide)]
  congr 1
  have h := congrArg BitVec.toNat (BitVec.xor_allOnes (x := BitVec.ofNat 64 a))
  rw [BitVec.toNat_xor, BitVec.toNat_allOnes, BitVec.toNat_not, BitVec.toNat_ofNat, Nat.mod_eq_of_lt (by simpa using ha)] at h
  simpa using h
theorem sign_val (n : Int) (h1 : -9223372036854775808 ≤ n) (h2 : n ≤ 9223372036854775807) :
    bits .xor .u64 (IntKind.u64.wrap (IntKind.u64.wrap n * 2)) (IntKind.u64.wrap (n / 9223372036854775808)) = (signN n : Int) := by
  unfold signN
  by_cases hn : n < 0
  · rw [if_pos hn]
    have e1 : IntKind.u64.wrap (n / 9223372036854775808) = 18446744073709551615 := by rw [IntKind.wrap_u64]; omega
    obtain ⟨a, ha⟩ : ∃ a : Nat, IntKind.u64.wrap (IntKind.u64.wrap n * 2) = (a : Int) := ⟨(IntKind.u64.wrap (IntKind.u64.wrap n * 2)).toNat, by rw [IntKind.wrap_u64]; omega⟩
    have hb : a < 18446744073709551616 := by rw [IntKind.wrap_u64] at ha; omega
    rw [e1, ha, xor_ones a hb]
    rw [IntKind.wrap_u64, IntKind.wrap_u64] at ha
    omega
  · rw [if_neg hn]
    have e1 : IntKind.u64.wrap (n / 9223372036854775808) = ((0 : Nat) : Int) := by rw [IntKind.wrap_u64]; omega
    have e2 : IntKind.u64.wrap (IntKind.u64.wrap n * 2) = ((n.toNat * 2 : Nat) : Int) := by rw [IntKind.wrap_u64, IntKind.wrap_u64]; omega
    rw [e1, e2, u64_xor_nat _ _ (by omega) (by omega), Nat.xor_zero]
theorem xor_i64_ones (a : Nat) (ha : a < 9223372036854775808) : bits .xor .i64 (a : Int) (-1) = -(a : Int) - 1 := by
  have h := congrArg BitVec.toNat (BitVec.xor_allOnes (x := BitVec.ofNat 64 a))
  rw [BitVec.toNat_xor, BitVec.toNat_allOnes, BitVec.toNat_not, BitVec.toNat_ofNat, Nat.mod_eq_of_lt (by omega)] at h
  show IntKind.i64.wrap ((BitVec.ofInt 64 (a : Int) ^^^ BitVec.ofInt 64 (-1)).toNat : Int) = _
  rw [BitVec.toNat_xor, ofInt_u64 a (by omega)]
  have e1 : (BitVec.ofInt 64 (-1)).toNat = 2 ^ 64 - 1 := by decide
  rw [e1, h, IntKind.wrap_i64]
  omega
theorem xor_i64_zero (a : Nat) (ha : a < 9223372036854775808) : bits .xor .i64 (a : Int) 0 = (a : Int) := by
  show IntKind.i64.wrap ((BitVec.ofInt 64 (a : Int) ^^^ BitVec.ofInt 64 0).toNat : Int) = _
  rw [BitVec.toNat_xor, ofInt_u64 a (by omega)]
  have e1 : (BitVec.ofInt 64 0).toNat = 0 := by decide
  rw [e1, Nat.xor_zero, IntKind.wrap_i64]
  omega
theorem unsign_val (n : Nat) (h2 : n < 18446744073709551616) :
    bits .xor .i64 ((n : Int) / 2) (wrap64 (-wrap64 (bits .and .u64 (n : Int) 1))) = unsignZ n := by
  unfold unsignZ
  have e0 : bits .and .u64 (n : Int) 1 = ((n % 2 : Nat) : Int) := by
    rw [show (1 : Int) = ((1 : Nat) : Int) from rfl, u64_and_nat _ _ h2 (by decide), nat_mask1]
  rw [e0, show ((n : Int) / 2) = ((n / 2 : Nat) : Int) by omega]
  by_cases h : n % 2 = 0
  · rw [if_pos h, h]
    rw [show wrap64 (-wrap64 ((0 : Nat) : Int)) = 0 by decide +kernel]
    exact xor_i64_zero (n / 2) (by omega)
  · rw [if_neg h, show n % 2 = 1 by omega]
    rw [show wrap64 (-wrap64 ((1 : Nat) : Int)) = -1 by decide +kernel]
    exact xor_i64_ones (n / 2) (by omega)
theorem signN_lt (n : Int) (h1 : -9223372036854775808 ≤ n) (h2 : n ≤ 9223372036854775807) : signN n < 18446744073709551616 := by unfold signN; split <;> omega
theorem unsign_sign (n : Int) : unsignZ (signN n) = n := by unfold unsignZ signN; split <;> split <;> omega
theorem sign_unsign (n : Nat) : signN (unsignZ n) = n := by unfold unsignZ signN; split <;> split <;> omega
theorem unsignZ_bd (n : Nat) (h : n < 18446744073709551616) : -9223372036854775808 ≤ unsignZ n ∧ unsignZ n ≤ 9223372036854775807 := by unfold unsignZ; split <;> omega

/-! ### eight bytes -/
def eightB (n : Nat) : List UInt8 := (List.range 8).map fun i => UInt8.ofNat (n / 2 ^ (56 - 8 * i))
theorem eightB_len (n : Nat) : (eightB n).length = 8 := by simp [eightB]
theorem eightB_step (n k : Nat) (hk : k < 8) : (eightB n).take k ++ [UInt8.ofNat (n / 2 ^ (56 - 8 * k))] = (eightB n).take (k + 1) := by
  rw [List.take_succ_eq_append_getElem (by simpa [eightB] using hk)]
  simp [eightB]
theorem eight_byte (x k : Nat) : Value.int .u8 ((x : Int) / 2 ^ (56 - 8 * k) % 256) = bv (UInt8.ofNat (x / 2 ^ (56 - 8 * k))) := by
  rw [bv_ofNat]; simp
def foldN (l : List UInt8) : Nat := l.foldl (fun a c => a * 256 + c.toNat) 0
theorem foldN_snoc (l : List UInt8) (c : UInt8) : foldN (l ++ [c]) = foldN l * 256 + c.toNat := by simp [foldN]
theorem foldN_lt (l : List UInt8) : foldN l < 256 ^ l.length := by
  suffices h : ∀ r : List UInt8, foldN r.reverse < 256 ^ r.reverse.length by simpa using h l.reverse
  intro r
  induction r with
  | nil => simp [foldN]
  | cons c r ih =>
    rw [List.reverse_cons, foldN_snoc, List.length_append, List.length_singleton, Nat.pow_succ]
    have := c.toNat_lt
    omega
theorem fold_val {a : Nat} {ch : UInt8} {k : Nat} (hk : k ≤ 7) (ha : a < 256 ^ k) :
    bits .or .u64 (IntKind.u64.wrap ((a : Int) * 256)) (IntKind.u64.wrap (ch.toNat : Int)) = ((a * 256 + ch.toNat : Nat) : Int) := by
  have h7 : (256 : Nat) ^ k ≤ 256 ^ 7 := Nat.pow_le_pow_right (by decide) hk
  have e7 : (256 : Nat) ^ 7 = 72057594037927936 := by decide
  have hc := ch.toNat_lt
  have e1 : IntKind.u64.wrap ((a : Int) * 256) = ((a * 256 : Nat) : Int) := by rw [IntKind.wrap_u64]; omega
  have e2 : IntKind.u64.wrap (ch.toNat : Int) = ((ch.toNat : Nat) : Int) := by rw [IntKind.wrap_u64]; omega
  rw [e1, e2, u64_or_nat _ _ (by omega) (by omega), nat_join 8 _ _ (by omega) (by omega)]
def uneightL (l : List UInt8) : Nat × Nat := if l.length < 8 then (0, 4) else (foldN (l.take 8), 0)

/-! ### lists -/
def numsB (q : List UInt64) : List UInt8 := q.flatMap fun x => numB x.toNat
def listB (q : List UInt64) : List UInt8 := numB q.length ++ numsB q
theorem numsB_snoc (q : List UInt64) (x : UInt64) : numsB (q ++ [x]) = numsB q ++ numB x.toNat := by simp [numsB]
theorem numsB_len (q : List UInt64) : (numsB q).length ≤ 10 * q.length := by
  induction q with
  | nil => simp [numsB]
  | cons x q ih => have := numB_ten x.toNat_lt; simp only [numsB, List.flatMap_cons, List.length_append, List.length_cons] at *; omega

theorem neq0 (e : Nat) : (((e : Int) != 0) = true → e ≠ 0) ∧ (((e : Int) != 0) = false → e = 0) := by
  constructor
  · intro h he; subst he; simp at h
  · intro h
    rcases Nat.eq_zero_or_pos e with h0 | h0
    · exact h0
    · exfalso
      have : ((e : Int) != 0) = true := by rw [bne_iff_ne]; omega
      rw [this] at h; cases h

/-! ### what Take answers -/
theorem takeGo_ok (l : List UInt8) : ∀ (i acc : Nat), i ≤ 9 → acc < 128 ^ i → (takeGo l i acc).2.2 = 0 →
    (takeGo l i acc).1 < 18446744073709551616 ∧ i + 1 ≤ (takeGo l i acc).2.1 ∧ (takeGo l i acc).2.1 ≤ i + l.length ∧ (takeGo l i acc).2.1 ≤ 10 := by
  induction l with
  | nil => intro i acc _ _ h; simp [takeGo] at h
  | cons c r ih =>
    intro i acc hi ha h
    by_cases hf : (i = 9 ∧ 1 < c.toNat) ∨ (0 < i ∧ c.toNat = 0)
    · rw [takeGo_form hf] at h; simp at h
    · by_cases h2 : c.toNat < 128
      · rw [takeGo_end hf h2]
        exact ⟨take_fit hi ha (by omega), by simp, by simp only [List.length_cons]; omega, by simp only; omega⟩
      · rw [takeGo_more hf h2] at h ⊢
        have hi9 : i ≤ 8 := by omega
        obtain ⟨a, b, c', d⟩ := ih (i + 1) _ (by omega) (take_step ha) h
        exact ⟨a, by omega, by simp only [List.length_cons]; omega, d⟩
theorem takeL_ok {l : List UInt8} (h : (takeL l).2.2 = 0) : (takeL l).1 < 18446744073709551616 ∧ 1 ≤ (takeL l).2.1 ∧ (takeL l).2.1 ≤ l.length ∧ (takeL l).2.1 ≤ 10 := by
  unfold takeL at h ⊢
  obtain ⟨a, b, c, d⟩ := takeGo_ok l 0 0 (by omega) (by simp) h
  exact ⟨a, by omega, by simpa using c, d⟩
theorem takeGo_bad (l : List UInt8) : ∀ (i acc : Nat), (takeGo l i acc).2.2 ≠ 0 → (takeGo l i acc).1 = 0 ∧ (takeGo l i acc).2.1 = 0 ∧ ((takeGo l i acc).2.2 = 3 ∨ (takeGo l i acc).2.2 = 4) := by
  induction l with
  | nil => intro i acc _; simp [takeGo]
  | cons c r ih =>
    intro i acc h
    by_cases hf : (i = 9 ∧ 1 < c.toNat) ∨ (0 < i ∧ c.toNat = 0)
    · rw [takeGo_form hf]; simp
    · by_cases h2 : c.toNat < 128
      · rw [takeGo_end hf h2] at h; simp at h
      · rw [takeGo_more hf h2] at h ⊢; exact ih _ _ h
theorem takeL_bad {l : List UInt8} (h : (takeL l).2.2 ≠ 0) : (takeL l).1 = 0 ∧ (takeL l).2.1 = 0 ∧ ((takeL l).2.2 = 3 ∨ (takeL l).2.2 = 4) := takeGo_bad l 0 0 h

/-- what is left of Unlist: k numbers are still to come -/
def unGo : Nat → List UInt8 → Nat → List UInt64 → List UInt64 × Nat × Nat
  | 0, _, at_, acc => (acc, at_, 0)
  | k + 1, l, at_, acc =>
    if (takeL (l.drop at_)).2.2 = 0 then unGo k l (at_ + (takeL (l.drop at_)).2.1) (acc ++ [UInt64.ofNat (takeL (l.drop at_)).1])
    else ([], 0, (takeL (l.drop at_)).2.2)
def unlistL (l : List UInt8) (most : Int) : List UInt64 × Nat × Nat :=
  if (takeL l).2.2 ≠ 0 then ([], 0, (takeL l).2.2)
  else if (if most < 0 then 0 else most) < ((takeL l).1 : Int) then ([], 0, 2)
  else unGo (takeL l).1 l (takeL l).2.1 []

end Go.Proofs.Ytnbdijifhimogaa
