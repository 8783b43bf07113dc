/-
  Texts of this claim, joined: Fold, Num, NumW1, NumW2, NumW3, RefW1, FrameW8, FrameLaw, Open, OpenE, OpenR, FrameW9, FrameLaw2, Crc, FrameLaw3, Item, ItemW1, ItemW2, ItemW3, ItemW7, ItemW8, NumLaw.
-/
import Derived.ProofKit
import Derived.OpenShut
import Derived.ShutString
import Derived.ChangeOld
import Derived.Deep.Slices
import Derived.Deep.Fields
import Derived.Deep.RegionHeld3
import Derived.Deep.RegionWith
import Derived.Deep.DrawnRows
import Derived.Test.YtnjmekjaingniaaZ1
/-
  Frames one behind the other, folded: as Split has them, and one by one. Plain laws.
-/
namespace Go.Proofs.Ytnjmekjaingniaa
open Go.RowKit
set_option linter.unusedVariables false
set_option linter.unusedSimpArgs false

section
variable {σ : Type} (step : σ → Nat → List UInt8 → Option σ)
/-- one by one: a torn frame ends it, any other error is none -/
def seqF (l : List UInt8) : Nat → Nat → σ → Option (σ × Nat)
  | 0, k, s => some (s, k)
  | f + 1, k, s => if k < l.length then
      (if (takeR (l.drop k)).1 = 0 then (match step s (takeR (l.drop k)).2.1 (takeR (l.drop k)).2.2.1 with | none => none | some s' => seqF l f (k + (takeR (l.drop k)).2.2.2) s')
       else if (takeR (l.drop k)).1 = 4 then some (s, k) else none)
    else some (s, k)
def foldF : σ → List Nat → List (List UInt8) → Option σ
  | s, k :: ks, b :: bs => match step s k b with | none => none | some s' => foldF s' ks bs
  | s, _, _ => some s
theorem splitG_acc (l : List UInt8) : ∀ (f k : Nat) (ks : List Nat) (bs : List (List UInt8)), splitG l f k ks bs = (ks ++ (splitG l f k [] []).1, bs ++ (splitG l f k [] []).2.1, (splitG l f k [] []).2.2.1, (splitG l f k [] []).2.2.2)
  | 0, k, ks, bs => by simp [splitG]
  | f + 1, k, ks, bs => by
    unfold splitG
    by_cases h1 : k < l.length
    · rw [if_pos h1, if_pos h1]
      by_cases h2 : (takeR (l.drop k)).1 = 0
      · rw [if_pos h2, if_pos h2, splitG_acc l f _ (ks ++ _) (bs ++ _), splitG_acc l f _ ([] ++ _) ([] ++ _)]
        simp
      · rw [if_neg h2, if_neg h2]; simp
    · rw [if_neg h1, if_neg h1]; simp
theorem seq_split (l : List UInt8) : ∀ (f k : Nat) (s : σ), seqF step l f k s = (if (splitG l f k [] []).2.2.2 = 0 ∨ (splitG l f k [] []).2.2.2 = 4 then (foldF step s (splitG l f k [] []).1 (splitG l f k [] []).2.1).map (fun x => (x, (splitG l f k [] []).2.2.1)) else none)
  | 0, k, s => by simp [seqF, splitG, foldF]
  | f + 1, k, s => by
    unfold seqF splitG
    by_cases h1 : k < l.length
    · simp only [if_pos h1]
      by_cases h2 : (takeR (l.drop k)).1 = 0
      · simp only [if_pos h2]
        rw [splitG_acc l f]
        simp only [List.nil_append, List.singleton_append, foldF]
        cases hs : step s (takeR (l.drop k)).2.1 (takeR (l.drop k)).2.2.1 with
        | none => simp
        | some s' => simp only []; exact seq_split l f _ s'
      · simp only [if_neg h2]
        by_cases h3 : (takeR (l.drop k)).1 = 4
        · rw [if_pos h3, if_pos (.inr h3)]; simp [foldF]
        · rw [if_neg h3, if_neg (by omega)]
    · simp only [if_neg h1]
      simp [foldF]
theorem foldF_append : ∀ (ks ks' : List Nat) (bs bs' : List (List UInt8)) (s : σ), ks.length = bs.length → foldF step s (ks ++ ks') (bs ++ bs') = (foldF step s ks bs).bind fun s' => foldF step s' ks' bs'
  | [], ks', [], bs', s, _ => rfl
  | k :: ks, ks', b :: bs, bs', s, h => by
    simp only [List.cons_append, foldF]
    cases step s k b with
    | none => rfl
    | some s' => exact foldF_append ks ks' bs bs' s' (by simpa using h)
theorem foldF_snoc {ks : List Nat} {bs : List (List UInt8)} {k : Nat} {b : List UInt8} {s s' : σ} (h : ks.length = bs.length) (hs : foldF step s ks bs = some s') : foldF step s (ks ++ [k]) (bs ++ [b]) = step s' k b := by
  rw [foldF_append step ks [k] bs [b] s h, hs]
  simp only [Option.bind_some, foldF]
  cases step s' k b <;> rfl
/-- what has failed stays so -/
theorem foldF_take_none {ks : List Nat} {bs : List (List UInt8)} {s : σ} (j : Nat) (h : ks.length = bs.length) (hn : foldF step s (ks.take j) (bs.take j) = none) : foldF step s ks bs = none := by
  have h2 := foldF_append step (ks.take j) (ks.drop j) (bs.take j) (bs.drop j) s (by simp [h])
  rw [List.take_append_drop, List.take_append_drop] at h2
  rw [h2, hn]; rfl
/-- the fold over what stands whole behind what was put before -/
theorem takeR_bd {r : List UInt8} (h : (takeR r).1 = 0) : 0 < (takeR r).2.2.2 := by have := (takeR_ok h).1; omega
theorem seqF_more (l : List UInt8) : ∀ (f f' k : Nat) (s : σ), l.length - k < f → l.length - k < f' → seqF step l f k s = seqF step l f' k s
  | 0, _, k, s, h, _ => absurd h (Nat.not_lt_zero _)
  | _ + 1, 0, k, s, _, h => absurd h (Nat.not_lt_zero _)
  | f + 1, f' + 1, k, s, h, h' => by
    unfold seqF
    by_cases h1 : k < l.length
    · rw [if_pos h1, if_pos h1]
      by_cases h2 : (takeR (l.drop k)).1 = 0
      · rw [if_pos h2, if_pos h2]
        have hb := takeR_bd h2
        cases step s (takeR (l.drop k)).2.1 (takeR (l.drop k)).2.2.1 with
        | none => rfl
        | some s' => exact seqF_more l f f' _ s' (by omega) (by omega)
      · rw [if_neg h2, if_neg h2]
    · rw [if_neg h1, if_neg h1]
end
theorem takeR_bl (r : List UInt8) : (takeR r).2.2.1.length ≤ r.length := by
  unfold takeR
  repeat' split
  all_goals first | exact Nat.zero_le _ | (simp only [List.length_take, List.length_drop]; omega)
theorem splitG_body (l : List UInt8) : ∀ (f k : Nat), ∀ b ∈ (splitG l f k [] []).2.1, b.length ≤ l.length
  | 0, k, b, hb => by simp [splitG] at hb
  | f + 1, k, b, hb => by
    unfold splitG at hb
    by_cases h1 : k < l.length
    · rw [if_pos h1] at hb
      by_cases h2 : (takeR (l.drop k)).1 = 0
      · rw [if_pos h2, splitG_acc l f] at hb
        simp only [List.nil_append, List.singleton_append, List.mem_cons] at hb
        rcases hb with e | hb
        · rw [e]
          have := takeR_bl (l.drop k)
          rw [List.length_drop] at this
          omega
        · exact splitG_body l f _ b hb
      · rw [if_neg h2] at hb; simp at hb
    · rw [if_neg h1] at hb; simp at hb
theorem splitL_body (l : List UInt8) : ∀ b ∈ (splitL l).2.1, b.length ≤ l.length := splitG_body l _ _
theorem splitG_lens (l : List UInt8) : ∀ (f k : Nat), (splitG l f k [] []).1.length = (splitG l f k [] []).2.1.length ∧ (splitG l f k [] []).1.length ≤ f
  | 0, k => by simp [splitG]
  | f + 1, k => by
    unfold splitG
    by_cases h1 : k < l.length
    · rw [if_pos h1]
      by_cases h2 : (takeR (l.drop k)).1 = 0
      · rw [if_pos h2, splitG_acc l f]
        have ih := splitG_lens l f (k + (takeR (l.drop k)).2.2.2)
        simp only [List.nil_append, List.singleton_append, List.length_cons]
        omega
      · rw [if_neg h2]; simp
    · rw [if_neg h1]; simp
theorem splitL_lens (l : List UInt8) : (splitL l).1.length = (splitL l).2.1.length ∧ (splitL l).1.length ≤ l.length + 1 := splitG_lens l _ _
end Go.Proofs.Ytnjmekjaingniaa

/-
  Plain: numbers as bytes: groups of seven bits (numB), eight bytes (eightB).
-/
namespace Go.Proofs.Ytnjmekjaingniaa
open Go.RowKit
set_option linter.unusedVariables false

/-- a number in groups of seven bits, the lowest first -/
def numB (n : Nat) : List UInt8 := if n < 128 then [UInt8.ofNat n] else UInt8.ofNat (n % 128 + 128) :: numB (n / 128)
termination_by n
decreasing_by omega

theorem numB_lo {n : Nat} (h : n < 128) : numB n = [UInt8.ofNat n] := by rw [numB, if_pos h]
theorem numB_hi {n : Nat} (h : ¬ n < 128) : numB n = UInt8.ofNat (n % 128 + 128) :: numB (n / 128) := by rw [numB, if_neg h]
theorem numB_pos (n : Nat) : 1 ≤ (numB n).length := by
  rw [numB]; split <;> simp
theorem numB_len (k : Nat) : ∀ n, n < 128 ^ (k + 1) → (numB n).length ≤ k + 1 := by
  induction k with
  | zero => intro n h; rw [numB_lo (by simpa using h)]; simp
  | succ k ih =>
    intro n h
    by_cases hn : n < 128
    · rw [numB_lo hn]; simp
    · rw [numB_hi hn]
      have := ih (n / 128) (by rw [Nat.div_lt_iff_lt_mul (by decide)]; rw [Nat.pow_succ] at h; exact h)
      simp only [List.length_cons]; omega
theorem numB_ten {n : Nat} (h : n < 18446744073709551616) : (numB n).length ≤ 10 := numB_len 9 n (Nat.lt_of_lt_of_le h (by decide))

/-- what Take finds in what is left, i bytes behind the beginning, acc gathered: the number, its bytes, the error -/
def takeGo : List UInt8 → Nat → Nat → Nat × Nat × Nat
  | [], _, _ => (0, 0, 4)
  | c :: r, i, acc =>
    if (i = 9 ∧ 1 < c.toNat) ∨ (0 < i ∧ c.toNat = 0) then (0, 0, 3)
    else if c.toNat < 128 then (acc + c.toNat % 128 * 128 ^ i, i + 1, 0)
    else takeGo r (i + 1) (acc + c.toNat % 128 * 128 ^ i)
def takeL (l : List UInt8) : Nat × Nat × Nat := takeGo l 0 0

theorem pow_le9 {i : Nat} (hi : i ≤ 9) : 128 ^ i ≤ 9223372036854775808 := by
  have : (128 : Nat) ^ i ≤ 128 ^ 9 := Nat.pow_le_pow_right (by decide) hi
  simpa using this
theorem take_step {acc i ch : Nat} (ha : acc < 128 ^ i) : acc + ch % 128 * 128 ^ i < 128 ^ (i + 1) := by
  have h1 : ch % 128 * 128 ^ i ≤ 127 * 128 ^ i := Nat.mul_le_mul_right _ (by omega)
  rw [Nat.pow_succ]; omega
theorem take_fit {acc i ch : Nat} (hi : i ≤ 9) (ha : acc < 128 ^ i) (h9 : i = 9 → ch ≤ 1) : acc + ch % 128 * 128 ^ i < 18446744073709551616 := by
  by_cases h : i = 9
  · subst h
    have h1 : ch % 128 * 128 ^ 9 ≤ 1 * 128 ^ 9 := Nat.mul_le_mul_right _ (by have := h9 rfl; omega)
    have e : (128 : Nat) ^ 9 = 9223372036854775808 := by decide
    rw [e] at *; omega
  · have := take_step (ch := ch) ha
    have h2 := pow_le9 (i := i + 1) (by omega)
    omega
/-- the number that a byte's turn of Take's loop comes to, as the walk spells it -/
theorem take_val {acc i : Nat} {ch : UInt8} (hi : i ≤ 9) (ha : acc < 128 ^ i) (h9 : i = 9 → ch.toNat ≤ 1) :
    bits .or .u64 (acc : Int) (IntKind.u64.wrap (IntKind.u64.wrap (bits .and .u8 (ch.toNat : Int) 127) * 2 ^ (7 * i))) = ((acc + ch.toNat % 128 * 128 ^ i : Nat) : Int) := by
  have hf := take_fit hi ha h9
  have hc : ch.toNat < 256 := ch.toNat_lt
  have e1 : bits .and .u8 (ch.toNat : Int) 127 = ((ch.toNat % 128 : Nat) : Int) := by
    rw [show (127 : Int) = ((127 : Nat) : Int) from rfl, u8_and_nat _ _ hc (by decide), nat_mask7]
  have e2 : (2 : Int) ^ (7 * i) = ((128 ^ i : Nat) : Int) := by rw [Int.natCast_pow, show ((128 : Nat) : Int) = 2 ^ 7 from rfl, ← Int.pow_mul]
  have e3 : IntKind.u64.wrap ((ch.toNat % 128 : Nat) : Int) = ((ch.toNat % 128 : Nat) : Int) := by
    rw [IntKind.wrap_u64]; omega
  rw [e1, e3, e2, ← Int.natCast_mul]
  have e4 : IntKind.u64.wrap ((ch.toNat % 128 * 128 ^ i : Nat) : Int) = ((ch.toNat % 128 * 128 ^ i : Nat) : Int) := by
    rw [IntKind.wrap_u64]; omega
  rw [e4, u64_or_nat _ _ (by omega) (by omega), Nat.or_comm, nat_join (7 * i), Nat.add_comm]
  · rw [Nat.pow_mul]; exact Nat.mul_mod_left _ _
  · rw [Nat.pow_mul]; exact ha

theorem take_val9 {acc : Nat} {ch : UInt8} (ha : acc < 128 ^ 9) (h9 : ch.toNat ≤ 1) :
    bits .or .u64 (acc : Int) (IntKind.u64.wrap (IntKind.u64.wrap (bits .and .u8 (ch.toNat : Int) 127) * 9223372036854775808)) = ((acc + ch.toNat % 128 * 128 ^ 9 : Nat) : Int) := by
  rw [← take_val (i := 9) (by omega) ha (fun _ => h9), show (2 : Int) ^ (7 * 9) = 9223372036854775808 by decide]
theorem rtake_val {acc i : Nat} {ch : UInt8} (hi : i ≤ 9) (ha : acc < 128 ^ i) (h9 : i = 9 → ch.toNat ≤ 1) :
    bits .or .u64 (acc : Int) (IntKind.u64.wrap (bits .and .u64 (ch.toNat : Int) 127 * 2 ^ (7 * i))) = ((acc + ch.toNat % 128 * 128 ^ i : Nat) : Int) := by
  rw [← take_val hi ha h9]
  have hc : ch.toNat < 256 := ch.toNat_lt
  have e1 : bits .and .u8 (ch.toNat : Int) 127 = ((ch.toNat % 128 : Nat) : Int) := by
    rw [show (127 : Int) = ((127 : Nat) : Int) from rfl, u8_and_nat _ _ hc (by decide), nat_mask7]
  have e2 : bits .and .u64 (ch.toNat : Int) 127 = ((ch.toNat % 128 : Nat) : Int) := by
    rw [show (127 : Int) = ((127 : Nat) : Int) from rfl, u64_and_nat _ _ (by omega) (by decide), nat_mask7]
  have e3 : IntKind.u64.wrap ((ch.toNat % 128 : Nat) : Int) = ((ch.toNat % 128 : Nat) : Int) := by
    rw [IntKind.wrap_u64]; omega
  rw [e1, e2, e3]
theorem rtake_val9 {acc : Nat} {ch : UInt8} (ha : acc < 128 ^ 9) (h9 : ch.toNat ≤ 1) :
    bits .or .u64 (acc : Int) (IntKind.u64.wrap (bits .and .u64 (ch.toNat : Int) 127 * 9223372036854775808)) = ((acc + ch.toNat % 128 * 128 ^ 9 : Nat) : Int) := by
  rw [← rtake_val (i := 9) (by omega) ha (fun _ => h9), show (2 : Int) ^ (7 * 9) = 9223372036854775808 by decide]
theorem byte0 (ch : UInt8) : (((ch.toNat : Int) == 0) = true → ch.toNat = 0) ∧ (((ch.toNat : Int) == 0) = false → 0 < ch.toNat) := by
  constructor
  · intro h; have := beq_iff_eq.1 h; omega
  · intro h; have := beq_eq_false_iff_ne.1 h; omega

theorem takeGo_form {c : UInt8} {r : List UInt8} {i acc : Nat} (h : (i = 9 ∧ 1 < c.toNat) ∨ (0 < i ∧ c.toNat = 0)) : takeGo (c :: r) i acc = (0, 0, 3) := by rw [takeGo, if_pos h]
theorem takeGo_end {c : UInt8} {r : List UInt8} {i acc : Nat} (h : ¬ ((i = 9 ∧ 1 < c.toNat) ∨ (0 < i ∧ c.toNat = 0))) (h2 : c.toNat < 128) : takeGo (c :: r) i acc = (acc + c.toNat % 128 * 128 ^ i, i + 1, 0) := by rw [takeGo, if_neg h, if_pos h2]
theorem takeGo_more {c : UInt8} {r : List UInt8} {i acc : Nat} (h : ¬ ((i = 9 ∧ 1 < c.toNat) ∨ (0 < i ∧ c.toNat = 0))) (h2 : ¬ c.toNat < 128) : takeGo (c :: r) i acc = takeGo r (i + 1) (acc + c.toNat % 128 * 128 ^ i) := by rw [takeGo, if_neg h, if_neg h2]

/-! ### signs -/
def signN (n : Int) : Nat := if n < 0 then (-(n + 1)).toNat * 2 + 1 else n.toNat * 2
def unsignZ (n : Nat) : Int := if n % 2 = 0 then ((n / 2 : Nat) : Int) else -((n / 2 : Nat) : Int) - 1
theorem xor_ones (a : Nat) (ha : a < 18446744073709551616) : bits .xor .u64 (a : Int) 18446744073709551615 = ((18446744073709551615 - a : Nat) : Int) := by
  rw [show (18446744073709551615 : Int) = ((18446744073709551615 : Nat) : Int) from rfl, u64_xor_nat _ _ ha (by decide)]
  congr 1
  have h := congrArg BitVec.toNat (BitVec.xor_allOnes (x := BitVec.ofNat 64 a))
  rw [BitVec.toNat_xor, BitVec.toNat_allOnes, BitVec.toNat_not, BitVec.toNat_ofNat, Nat.mod_eq_of_lt (by simpa using ha)] at h
  simpa using h
theorem sign_val (n : Int) (h1 : -9223372036854775808 ≤ n) (h2 : n ≤ 9223372036854775807) :
    bits .xor .u64 (IntKind.u64.wrap (IntKind.u64.wrap n * 2)) (IntKind.u64.wrap (n / 9223372036854775808)) = (signN n : Int) := by
  unfold signN
  by_cases hn : n < 0
  · rw [if_pos hn]
    have e1 : IntKind.u64.wrap (n / 9223372036854775808) = 18446744073709551615 := by rw [IntKind.wrap_u64]; omega
    obtain ⟨a, ha⟩ : ∃ a : Nat, IntKind.u64.wrap (IntKind.u64.wrap n * 2) = (a : Int) := ⟨(IntKind.u64.wrap (IntKind.u64.wrap n * 2)).toNat, by rw [IntKind.wrap_u64]; omega⟩
    have hb : a < 18446744073709551616 := by rw [IntKind.wrap_u64] at ha; omega
    rw [e1, ha, xor_ones a hb]
    rw [IntKind.wrap_u64, IntKind.wrap_u64] at ha
    omega
  · rw [if_neg hn]
    have e1 : IntKind.u64.wrap (n / 9223372036854775808) = ((0 : Nat) : Int) := by rw [IntKind.wrap_u64]; omega
    have e2 : IntKind.u64.wrap (IntKind.u64.wrap n * 2) = ((n.toNat * 2 : Nat) : Int) := by rw [IntKind.wrap_u64, IntKind.wrap_u64]; omega
    rw [e1, e2, u64_xor_nat _ _ (by omega) (by omega), Nat.xor_zero]
theorem xor_i64_ones (a : Nat) (ha : a < 9223372036854775808) : bits .xor .i64 (a : Int) (-1) = -(a : Int) - 1 := by
  have h := congrArg BitVec.toNat (BitVec.xor_allOnes (x := BitVec.ofNat 64 a))
  rw [BitVec.toNat_xor, BitVec.toNat_allOnes, BitVec.toNat_not, BitVec.toNat_ofNat, Nat.mod_eq_of_lt (by omega)] at h
  show IntKind.i64.wrap ((BitVec.ofInt 64 (a : Int) ^^^ BitVec.ofInt 64 (-1)).toNat : Int) = _
  rw [BitVec.toNat_xor, ofInt_u64 a (by omega)]
  have e1 : (BitVec.ofInt 64 (-1)).toNat = 2 ^ 64 - 1 := by decide
  rw [e1, h, IntKind.wrap_i64]
  omega
theorem xor_i64_zero (a : Nat) (ha : a < 9223372036854775808) : bits .xor .i64 (a : Int) 0 = (a : Int) := by
  show IntKind.i64.wrap ((BitVec.ofInt 64 (a : Int) ^^^ BitVec.ofInt 64 0).toNat : Int) = _
  rw [BitVec.toNat_xor, ofInt_u64 a (by omega)]
  have e1 : (BitVec.ofInt 64 0).toNat = 0 := by decide
  rw [e1, Nat.xor_zero, IntKind.wrap_i64]
  omega
theorem unsign_val (n : Nat) (h2 : n < 18446744073709551616) :
    bits .xor .i64 ((n : Int) / 2) (wrap64 (-wrap64 (bits .and .u64 (n : Int) 1))) = unsignZ n := by
  unfold unsignZ
  have e0 : bits .and .u64 (n : Int) 1 = ((n % 2 : Nat) : Int) := by
    rw [show (1 : Int) = ((1 : Nat) : Int) from rfl, u64_and_nat _ _ h2 (by decide), nat_mask1]
  rw [e0, show ((n : Int) / 2) = ((n / 2 : Nat) : Int) by omega]
  by_cases h : n % 2 = 0
  · rw [if_pos h, h]
    rw [show wrap64 (-wrap64 ((0 : Nat) : Int)) = 0 by decide +kernel]
    exact xor_i64_zero (n / 2) (by omega)
  · rw [if_neg h, show n % 2 = 1 by omega]
    rw [show wrap64 (-wrap64 ((1 : Nat) : Int)) = -1 by decide +kernel]
    exact xor_i64_ones (n / 2) (by omega)
theorem signN_lt (n : Int) (h1 : -9223372036854775808 ≤ n) (h2 : n ≤ 9223372036854775807) : signN n < 18446744073709551616 := by unfold signN; split <;> omega
theorem unsign_sign (n : Int) : unsignZ (signN n) = n := by unfold unsignZ signN; split <;> split <;> omega
theorem sign_unsign (n : Nat) : signN (unsignZ n) = n := by unfold unsignZ signN; split <;> split <;> omega
theorem unsignZ_bd (n : Nat) (h : n < 18446744073709551616) : -9223372036854775808 ≤ unsignZ n ∧ unsignZ n ≤ 9223372036854775807 := by unfold unsignZ; split <;> omega

/-! ### eight bytes -/
def eightB (n : Nat) : List UInt8 := (List.range 8).map fun i => UInt8.ofNat (n / 2 ^ (56 - 8 * i))
theorem eightB_len (n : Nat) : (eightB n).length = 8 := by simp [eightB]
theorem eightB_step (n k : Nat) (hk : k < 8) : (eightB n).take k ++ [UInt8.ofNat (n / 2 ^ (56 - 8 * k))] = (eightB n).take (k + 1) := by
  rw [List.take_succ_eq_append_getElem (by simpa [eightB] using hk)]
  simp [eightB]
theorem eight_byte (x k : Nat) : Value.int .u8 ((x : Int) / 2 ^ (56 - 8 * k) % 256) = bv (UInt8.ofNat (x / 2 ^ (56 - 8 * k))) := by
  rw [bv_ofNat]; simp
def foldN (l : List UInt8) : Nat := l.foldl (fun a c => a * 256 + c.toNat) 0
theorem foldN_snoc (l : List UInt8) (c : UInt8) : foldN (l ++ [c]) = foldN l * 256 + c.toNat := by simp [foldN]
theorem foldN_lt (l : List UInt8) : foldN l < 256 ^ l.length := by
  suffices h : ∀ r : List UInt8, foldN r.reverse < 256 ^ r.reverse.length by simpa using h l.reverse
  intro r
  induction r with
  | nil => simp [foldN]
  | cons c r ih =>
    rw [List.reverse_cons, foldN_snoc, List.length_append, List.length_singleton, Nat.pow_succ]
    have := c.toNat_lt
    omega
theorem fold_val {a : Nat} {ch : UInt8} {k : Nat} (hk : k ≤ 7) (ha : a < 256 ^ k) :
    bits .or .u64 (IntKind.u64.wrap ((a : Int) * 256)) (IntKind.u64.wrap (ch.toNat : Int)) = ((a * 256 + ch.toNat : Nat) : Int) := by
  have h7 : (256 : Nat) ^ k ≤ 256 ^ 7 := Nat.pow_le_pow_right (by decide) hk
  have e7 : (256 : Nat) ^ 7 = 72057594037927936 := by decide
  have hc := ch.toNat_lt
  have e1 : IntKind.u64.wrap ((a : Int) * 256) = ((a * 256 : Nat) : Int) := by rw [IntKind.wrap_u64]; omega
  have e2 : IntKind.u64.wrap (ch.toNat : Int) = ((ch.toNat : Nat) : Int) := by rw [IntKind.wrap_u64]; omega
  rw [e1, e2, u64_or_nat _ _ (by omega) (by omega), nat_join 8 _ _ (by omega) (by omega)]
def uneightL (l : List UInt8) : Nat × Nat := if l.length < 8 then (0, 4) else (foldN (l.take 8), 0)

/-! ### lists -/
def numsB (q : List UInt64) : List UInt8 := q.flatMap fun x => numB x.toNat
def listB (q : List UInt64) : List UInt8 := numB q.length ++ numsB q
theorem numsB_snoc (q : List UInt64) (x : UInt64) : numsB (q ++ [x]) = numsB q ++ numB x.toNat := by simp [numsB]
theorem numsB_len (q : List UInt64) : (numsB q).length ≤ 10 * q.length := by
  induction q with
  | nil => simp [numsB]
  | cons x q ih => have := numB_ten x.toNat_lt; simp only [numsB, List.flatMap_cons, List.length_append, List.length_cons] at *; omega

theorem neq0 (e : Nat) : (((e : Int) != 0) = true → e ≠ 0) ∧ (((e : Int) != 0) = false → e = 0) := by
  constructor
  · intro h he; subst he; simp at h
  · intro h
    rcases Nat.eq_zero_or_pos e with h0 | h0
    · exact h0
    · exfalso
      have : ((e : Int) != 0) = true := by rw [bne_iff_ne]; omega
      rw [this] at h; cases h

/-! ### what Take answers -/
theorem takeGo_ok (l : List UInt8) : ∀ (i acc : Nat), i ≤ 9 → acc < 128 ^ i → (takeGo l i acc).2.2 = 0 →
    (takeGo l i acc).1 < 18446744073709551616 ∧ i + 1 ≤ (takeGo l i acc).2.1 ∧ (takeGo l i acc).2.1 ≤ i + l.length ∧ (takeGo l i acc).2.1 ≤ 10 := by
  induction l with
  | nil => intro i acc _ _ h; simp [takeGo] at h
  | cons c r ih =>
    intro i acc hi ha h
    by_cases hf : (i = 9 ∧ 1 < c.toNat) ∨ (0 < i ∧ c.toNat = 0)
    · rw [takeGo_form hf] at h; simp at h
    · by_cases h2 : c.toNat < 128
      · rw [takeGo_end hf h2]
        exact ⟨take_fit hi ha (by omega), by simp, by simp only [List.length_cons]; omega, by simp only; omega⟩
      · rw [takeGo_more hf h2] at h ⊢
        have hi9 : i ≤ 8 := by omega
        obtain ⟨a, b, c', d⟩ := ih (i + 1) _ (by omega) (take_step ha) h
        exact ⟨a, by omega, by simp only [List.length_cons]; omega, d⟩
theorem takeL_ok {l : List UInt8} (h : (takeL l).2.2 = 0) : (takeL l).1 < 18446744073709551616 ∧ 1 ≤ (takeL l).2.1 ∧ (takeL l).2.1 ≤ l.length ∧ (takeL l).2.1 ≤ 10 := by
  unfold takeL at h ⊢
  obtain ⟨a, b, c, d⟩ := takeGo_ok l 0 0 (by omega) (by simp) h
  exact ⟨a, by omega, by simpa using c, d⟩
theorem takeGo_bad (l : List UInt8) : ∀ (i acc : Nat), (takeGo l i acc).2.2 ≠ 0 → (takeGo l i acc).1 = 0 ∧ (takeGo l i acc).2.1 = 0 ∧ ((takeGo l i acc).2.2 = 3 ∨ (takeGo l i acc).2.2 = 4) := by
  induction l with
  | nil => intro i acc _; simp [takeGo]
  | cons c r ih =>
    intro i acc h
    by_cases hf : (i = 9 ∧ 1 < c.toNat) ∨ (0 < i ∧ c.toNat = 0)
    · rw [takeGo_form hf]; simp
    · by_cases h2 : c.toNat < 128
      · rw [takeGo_end hf h2] at h; simp at h
      · rw [takeGo_more hf h2] at h ⊢; exact ih _ _ h
theorem takeL_bad {l : List UInt8} (h : (takeL l).2.2 ≠ 0) : (takeL l).1 = 0 ∧ (takeL l).2.1 = 0 ∧ ((takeL l).2.2 = 3 ∨ (takeL l).2.2 = 4) := takeGo_bad l 0 0 h

/-- what is left of Unlist: k numbers are still to come -/
def unGo : Nat → List UInt8 → Nat → List UInt64 → List UInt64 × Nat × Nat
  | 0, _, at_, acc => (acc, at_, 0)
  | k + 1, l, at_, acc =>
    if (takeL (l.drop at_)).2.2 = 0 then unGo k l (at_ + (takeL (l.drop at_)).2.1) (acc ++ [UInt64.ofNat (takeL (l.drop at_)).1])
    else ([], 0, (takeL (l.drop at_)).2.2)
def unlistL (l : List UInt8) (most : Int) : List UInt64 × Nat × Nat :=
  if (takeL l).2.2 ≠ 0 then ([], 0, (takeL l).2.2)
  else if (if most < 0 then 0 else most) < ((takeL l).1 : Int) then ([], 0, 2)
  else unGo (takeL l).1 l (takeL l).2.1 []

end Go.Proofs.Ytnjmekjaingniaa

/-
  The walks of num: Put.
-/
namespace Go.Proofs.Ytnjmekjaingniaa
open Go.RowKit
set_option linter.unusedVariables false


theorem or128 : ∀ k, k < 256 → bits .or .u8 ((k : Nat) : Int) 128 = ((k % 128 + 128 : Nat) : Int) := by decide +kernel
theorem put_byte (m : Nat) : Value.int .u8 (bits BinOp.or IntKind.u8 ((m : Int) % 256) 128) = bv (UInt8.ofNat (m % 128 + 128)) := by
  rw [bv_ofNat, show ((m : Int) % 256) = ((m % 256 : Nat) : Int) by omega, or128 _ (Nat.mod_lt _ (by decide))]
  congr 1; omega

set_option maxRecDepth 100000 in
set_option maxHeartbeats 400000 in
theorem put_any (A : Option Addr) (n c : Nat) (bs : List UInt8) (x : Nat) (w : World) (hr : Rd w w.heap.size 1 A n (bvs bs)) (hn : n ≤ 1099511627776) (hx : (x : Int) ≤ 18446744073709551615) :
    Calls Try.prog 56 #[.slice A n c, .int .u64 (x : Int)] w fun e w' => ∃ A' n' c', e = .returned (.slice A' n' c') ∧ OwnB w' w.heap.size A' n' c' (bs ++ numB x) ∧ Up w w' := by
  go_enter Try.func56, Try.ntmps56
  go_wp2_with (first
    | (at_builtin
       refine wpList_append_rd _ bytesT (World.ownsRow_nil _ w.heap.size _ _) hr (bvs_one _) (by omega) (by omega) (Nat.le_refl _) rfl rfl rfl rfl ?_
       intro v1 w1 hown1 hg1 hat1))
  have hu1 : Up w w1 := (Up.refl w).grown hg1 (by simp [Value.ownBlock])
  simp only [Nat.zero_add, List.nil_append] at hown1
  go_loopw [1, 5] (fun q v wr => ∃ (m : Nat) (pre : List UInt8), q = .int .u64 (m : Int) ∧ (m : Int) ≤ 18446744073709551615 ∧ wr.ownsRow w.heap.size 5 1 v pre.length (bvs pre) ∧ Hid (pre ++ numB m = bs ++ numB x) ∧ Up w wr)
    (fun q _ _ => (intOf q).toNat)
  case atStart => exact ⟨x, bs, rfl, by omega, by have := hr.len; simp only [bvs_length, Nat.mul_one] at this; rw [this]; exact hown1, rfl, hu1⟩
  case round =>
    obtain ⟨m, pre, rfl, hm, hown, hp, hu⟩ := hrel
    clear hown1 hu1
    have hl : pre.length + (numB m).length = n + (numB x).length := by
      have := congrArg List.length hp.out; have h2 := hr.len
      simp only [List.length_append, bvs_length, Nat.mul_one] at this h2; omega
    have hxt := numB_ten (n := x) (by omega)
    have hbd : pre.length ≤ 1099511627786 := by omega
    have HL := Lib.hid hl
    clear hl hxt hn hr
    by_cases hlt : m < 128
    · have hb : Value.int .u8 (m : Int) = bv (UInt8.ofNat m) := by rw [bv_ofNat]; congr 1; omega
      have HB := Lib.hid hb; clear hb
      go_wp2_with (at_builtin; refine wpList_append_rd _ bytesT (news := bvs [UInt8.ofNat m]) (hown.alloc _) (Rd.boxb _ _ HB.out) (bvs_one _) (by omega) (by omega) (by simp; have := hu.size; omega) rfl rfl rfl rfl ?_; intro v2 w2 hown2 hg2 hat2)
      obtain ⟨A2, c2, rfl⟩ := own_form hown2
      go_ret
      refine ⟨A2, _, c2, rfl, ?_, hu.alloc _ |>.grown hg2 (fun k hk => (hown.lt k hk).1)⟩
      show World.ownsRow _ _ _ _ _ _ _
      rw [← hp.out, bvs_append, numB_lo hlt]; exact hown2
    · have HB := Lib.hid (put_byte m)
      go_wp2_with (at_builtin; refine wpList_append_rd _ bytesT (news := bvs [UInt8.ofNat (m % 128 + 128)]) (hown.alloc _) (Rd.boxb _ _ HB.out) (bvs_one _) (by omega) (by omega) (by simp; have := hu.size; omega) rfl rfl rfl rfl ?_; intro v2 w2 hown2 hg2 hat2)
      go_roundw
      case rel =>
        refine ⟨m / 128, pre ++ [UInt8.ofNat (m % 128 + 128)], by go_num, by omega, ?_, ?_, hu.alloc _ |>.grown hg2 (fun k hk => (hown.lt k hk).1)⟩
        · rw [bvs_append, List.length_append]; exact hown2
        · show _ = _; rw [← hp.out, numB_hi hlt]; simp
      case measure => simp [intOf]; omega

end Go.Proofs.Ytnjmekjaingniaa

/-
  The walks of num: Take.
-/
namespace Go.Proofs.Ytnjmekjaingniaa
open Go.RowKit
set_option linter.unusedVariables false

set_option maxRecDepth 100000 in
set_option maxHeartbeats 400000 in
theorem take_any (A : Option Addr) (n c : Nat) (bs : List UInt8) (w : World) (hr : Rd w w.heap.size 1 A n (bvs bs)) (hn : n ≤ 9223372036854775807) :
    Calls Try.prog 64 #[.slice A n c] w fun e w' => e = .returned (.tuple #[.int .u64 ((takeL bs).1 : Int), .int .i64 ((takeL bs).2.1 : Int), .int .i64 ((takeL bs).2.2 : Int)]) ∧ w = w' := by
  go_enter Try.func64, Try.ntmps64
  go_wp2
  go_loop [2, 9] (fun q i => ∃ (k acc : Nat), i = .int .i64 (k : Int) ∧ q = .int .u64 (acc : Int) ∧ k ≤ n ∧ k ≤ 9 ∧ acc < 128 ^ k ∧ Hid (takeGo (bs.drop k) k acc = takeL bs)) (fun _ i => n - (intOf i).toNat)
  case atStart => exact ⟨0, 0, rfl, rfl, by omega, by omega, by simp, rfl⟩
  case round =>
    obtain ⟨k, acc, rfl, rfl, hk, hk9, hacc, ht⟩ := hrel
    by_cases hlt : k < n
    · obtain ⟨b, o, rfl, _, hc⟩ := hr.byte hlt
      have hbl : k < bs.length := by have := hr.len; simp only [bvs_length] at this; omega
      have htg : takeGo (bs.drop k) k acc = takeGo (bs.getD k 0 :: bs.drop (k + 1)) k acc := by
        rw [List.drop_eq_getElem_cons hbl]; simp [List.getD, hbl]
      generalize (bs.getD k 0) = ch at hc htg
      have HT : Hid (takeGo (ch :: bs.drop (k + 1)) k acc = takeL bs) := htg.symm.trans ht.out
      clear htg ht hr
      have HZ := Lib.hid (byte0 ch)
      by_cases h9 : k = 9
      · subst h9
        go_wp2
        all_goals (first | have hz := HZ.out.1 (by assumption) | have hz := HZ.out.2 (by assumption) | skip)
        all_goals first
          | (go_ret3; rw [← HT.out, takeGo_form (by omega)]; exact ⟨rfl, rfl⟩)
          | (go_ret3; rw [← HT.out, takeGo_end (by omega) (by omega)]; exact ⟨by rw [← take_val9 hacc (by omega)]; rfl, rfl⟩)
      · go_wp2
        all_goals (first | have hz := HZ.out.1 (by assumption) | have hz := HZ.out.2 (by assumption) | skip)
        all_goals first
          | (go_ret3; rw [← HT.out, takeGo_form (by omega)]; exact ⟨rfl, rfl⟩)
          | (go_ret3; rw [← HT.out, takeGo_end (by omega) (by omega)]; exact ⟨by rw [← take_val (by omega) hacc (by omega)]; rfl, rfl⟩)
          | (go_round
             case rel => exact ⟨k + 1, _, by go_num, congrArg _ (take_val (by omega) hacc (by omega)), by omega, by omega, take_step hacc, (takeGo_more (by omega) (by omega)).symm.trans HT.out⟩
             case measure => simp [intOf]; omega)
    · go_wp2
      go_ret3
      have hk' : k = n := by omega
      rw [← ht.out, List.drop_of_length_le (by have := hr.len; simp only [bvs_length] at this; omega)]
      exact ⟨rfl, rfl⟩

end Go.Proofs.Ytnjmekjaingniaa

/-
  The walks of num: Sign, Unsign, Uneight, Eight.
-/
namespace Go.Proofs.Ytnjmekjaingniaa
open Go.RowKit
set_option linter.unusedVariables false

theorem sign_any (n : Int) (w : World) (h1 : -9223372036854775808 ≤ n) (h2 : n ≤ 9223372036854775807) :
    Calls Try.prog 57 #[.int .i64 n] w fun e w' => e = .returned (.int .u64 (signN n : Int)) ∧ w = w' := by
  go_enter Try.func57, Try.ntmps57
  go_wp2
  go_ret
  exact ⟨by rw [← sign_val n h1 h2]; rfl, rfl⟩

theorem unsign_any (n : Nat) (w : World) (h2 : (n : Int) ≤ 18446744073709551615) :
    Calls Try.prog 84 #[.int .u64 (n : Int)] w fun e w' => e = .returned (.int .i64 (unsignZ n)) ∧ w = w' := by
  go_enter Try.func84, Try.ntmps84
  go_wp2
  go_ret
  exact ⟨by rw [← unsign_val n (by omega)]; rfl, rfl⟩



end Go.Proofs.Ytnjmekjaingniaa

/-
  The walks of the document's answers for numbers: Take, Uneight, Sign.
-/
namespace Go.Proofs.Ytnjmekjaingniaa
open Go.RowKit
set_option linter.unusedVariables false

/-- a text's byte, as a list's -/
theorem getD_str {s : ByteArray} {l : List UInt8} (hs : s.data.toList = l) {k : Nat} (hk : k < s.size) : s[k] = l.getD k 0 := by
  subst hs
  have h : k < s.data.size := hk
  show s.data[k] = _
  simp only [List.getD, Array.getElem?_toList, Array.getElem?_eq_getElem h, Option.getD_some]
theorem size_str {s : ByteArray} {l : List UInt8} (hs : s.data.toList = l) : s.size = l.length := by subst hs; rfl

set_option maxRecDepth 100000 in
set_option maxHeartbeats 800000 in
theorem rtake_any (s : ByteArray) (l : List UInt8) (w : World) (hs : s.data.toList = l) (hn : s.size ≤ 9223372036854775807) :
    Calls Try.prog 69 #[.string s] w fun e w' => e = .returned (.tuple #[.int .u64 ((takeL l).1 : Int), .int .i64 ((takeL l).2.1 : Int), .int .i64 ((takeL l).2.2 : Int)]) ∧ w = w' := by
  have HS := Lib.hid hs
  have HZ := Lib.hid (size_str hs)
  clear hs
  go_enter Try.func69, Try.ntmps69
  go_wp2
  go_loop [5, 6] (fun q i => ∃ (k acc : Nat), i = .int .i64 (k : Int) ∧ q = .int .u64 (acc : Int) ∧ k ≤ s.size ∧ k ≤ 9 ∧ acc < 128 ^ k ∧ Hid (takeGo (l.drop k) k acc = takeL l)) (fun _ i => 10 - (intOf i).toNat)
  case atStart => exact ⟨0, 0, rfl, rfl, by omega, by omega, by simp, rfl⟩
  case round =>
    obtain ⟨k, acc, rfl, rfl, hk, hk9, hacc, ht⟩ := hrel
    by_cases hlt : k < s.size
    · have hbl : k < l.length := by have := HZ.out; omega
      have htg : takeGo (l.drop k) k acc = takeGo (l.getD k 0 :: l.drop (k + 1)) k acc := by
        rw [List.drop_eq_getElem_cons hbl]; simp [List.getD, hbl]
      have hgd := getD_str HS.out hlt
      generalize (l.getD k 0) = ch at hgd htg
      have HT : Hid (takeGo (ch :: l.drop (k + 1)) k acc = takeL l) := htg.symm.trans ht.out
      clear htg ht
      have hcb := ch.toNat_lt
      have HZ := Lib.hid (byte0 ch)
      by_cases h9 : k = 9
      · subst h9
        go_wp2_with fail
        all_goals (first | have hz := HZ.out.1 (by assumption) | have hz := HZ.out.2 (by assumption) | skip)
        all_goals first
          | (go_ret3; rw [← HT.out, takeGo_form (by omega)]; exact ⟨rfl, rfl⟩)
          | (go_ret3; rw [← HT.out, takeGo_end (by omega) (by omega)]; exact ⟨by rw [← rtake_val9 hacc (by omega)]; rfl, rfl⟩)
      · go_wp2_with fail
        all_goals (first | have hz := HZ.out.1 (by assumption) | have hz := HZ.out.2 (by assumption) | skip)
        all_goals first
          | (go_ret3; rw [← HT.out, takeGo_form (by omega)]; exact ⟨rfl, rfl⟩)
          | (go_ret3; rw [← HT.out, takeGo_end (by omega) (by omega)]; exact ⟨by rw [← rtake_val (by omega) hacc (by omega)]; rfl, rfl⟩)
          | (go_round
             case rel => exact ⟨k + 1, _, by go_num, congrArg _ (rtake_val (by omega) hacc (by omega)), by omega, by omega, take_step hacc, (takeGo_more (by omega) (by omega)).symm.trans HT.out⟩
             case measure => simp [intOf]; omega)
    · go_wp2
      go_ret3
      have hk' : k = s.size := by omega
      rw [← ht.out, List.drop_of_length_le (by have := HZ.out; omega)]
      exact ⟨rfl, rfl⟩


set_option maxRecDepth 100000 in
theorem rsign_any (n : Int) (w : World) (h1 : -9223372036854775808 ≤ n) (h2 : n ≤ 9223372036854775807) :
    Calls Try.prog 62 #[.int .i64 n] w fun e w' => e = .returned (.int .u64 (signN n : Int)) ∧ w = w' := by
  unfold signN
  by_cases hn : n < 0
  · rw [if_pos hn]
    go_enter Try.func62, Try.ntmps62
    go_wp2
    go_ret
    refine ⟨?_, rfl⟩
    show Ending.returned (.int .u64 (-(n + 1) * 2 + 1)) = _
    congr 2; omega
  · rw [if_neg hn]
    go_enter Try.func62, Try.ntmps62
    go_wp2
    go_ret
    refine ⟨?_, rfl⟩
    show Ending.returned (.int .u64 (n * 2)) = Ending.returned (.int .u64 (max n 0 * 2))
    congr 2; omega

end Go.Proofs.Ytnjmekjaingniaa

/-
  The walks of the document's answers for sums and frames: Sum, Seal, Open, FrameOk, Frame.
-/
namespace Go.Proofs.Ytnjmekjaingniaa
open Go.RowKit
set_option linter.unusedVariables false
set_option linter.unusedSimpArgs false

theorem u32_xor_poly (z : Nat) (hz : z < 4294967296) : bits .xor .u32 ((z : Int) / 2) 2197175160 = (((z / 2) ^^^ 2197175160 : Nat) : Int) := by
  rw [show (z : Int) / 2 = ((z / 2 : Nat) : Int) by omega, show (2197175160 : Int) = ((2197175160 : Nat) : Int) from rfl, u32_xor_nat _ _ (by omega) (by omega)]

set_option maxRecDepth 100000 in
set_option maxHeartbeats 1600000 in
theorem rsum_any (l : List UInt8) (w : World) (hn : l.length ≤ 9223372036854775807) :
    Calls Try.prog 85 #[.string (tx l)] w fun e w' => e = .returned (.int .u32 (sumC l : Int)) ∧ w = w' := by
  have hs := tx_list l
  have hsz : (tx l).size ≤ 9223372036854775807 := by rw [tx_size]; exact hn
  have HS := Lib.hid hs
  have HL := Lib.hid (tx_size l)
  clear hs
  generalize tx l = s at *
  go_enter Try.func85, Try.ntmps85
  go_wp2_with fail
  go_loop [3, 4, 5] (fun q i _ => ∃ (k : Nat) (x : Nat), i = .int .i64 (k : Int) ∧ q = .int .u32 (x : Int) ∧ x < 4294967296 ∧ k ≤ s.size ∧ Hid (addC 4294967295 (l.take k) = x)) (fun _ i _ => s.size - (intOf i).toNat)
  case atStart => exact ⟨0, 4294967295, rfl, rfl, by omega, by omega, rfl⟩
  case round =>
    obtain ⟨k, x, rfl, rfl, hx, hk, hH⟩ := hrel
    by_cases hlt : k < s.size
    · have hgd := getD_str HS.out hlt
      have hq : l.take (k + 1) = l.take k ++ [l.getD k 0] := by
        have : k < l.length := by have := HL.out; omega
        rw [List.take_succ_eq_append_getElem this]; simp [List.getD, this]
      generalize l.getD k 0 = b0 at hgd hq
      have hxb : bits .xor .u32 (x : Int) (b0.toNat : Int) = ((x ^^^ b0.toNat : Nat) : Int) := by
        have := b0.toNat_lt
        rw [u32_xor_nat _ _ hx (by omega)]
      have hb256 := b0.toNat_lt
      have HQ := Lib.hid hq
      have hx0 := xorB_lt b0 hx
      clear hq
      go_wp2_with fail
      clear hxb
      generalize hz0 : x ^^^ b0.toNat = z0 at *
      have HZ := Lib.hid hz0
      clear hz0
      go_loop [3, 5] (fun q j => ∃ (z : Nat) (jj : Nat), j = .int .i64 (jj : Int) ∧ q = .int .u32 (z : Int) ∧ z < 4294967296 ∧ jj ≤ 8 ∧ Hid (crcN (8 - jj) z = crcN 8 z0)) (fun _ j => 8 - (intOf j).toNat)
      case atStart => exact ⟨z0, 0, rfl, rfl, hx0, by omega, rfl⟩
      case round =>
        obtain ⟨z, jj, rfl, rfl, hz, hj, hcz⟩ := hrel
        by_cases hlt2 : jj < 8
        · have ha := u32_and_one z hz
          have hp := u32_xor_poly z hz
          have hsl := crcS_lt hz
          by_cases hodd : z % 2 = 1
          · rw [hodd] at ha
            have hcs : crcS z = (z / 2) ^^^ 2197175160 := by unfold crcS; rw [if_pos hodd]
            rw [← hcs] at hp
            have hcz2 : crcN (8 - (jj + 1)) (crcS z) = crcN 8 z0 := by rw [← hcz.out, show 8 - jj = (8 - (jj + 1)) + 1 by omega]; rfl
            have HC := Lib.hid hcz2
            clear hcz2 hcs
            generalize crcS z = y at *
            go_wp2_with fail
            go_round
            case rel => exact ⟨y, jj + 1, by go_num, rfl, hsl, by omega, HC.out⟩
            case measure => simp [intOf]; omega
          · have h0 : z % 2 = 0 := by omega
            rw [h0] at ha
            have hcs : crcS z = z / 2 := by unfold crcS; rw [if_neg hodd]
            have hcz2 : crcN (8 - (jj + 1)) (z / 2) = crcN 8 z0 := by rw [← hcz.out, show 8 - jj = (8 - (jj + 1)) + 1 by omega, ← hcs]; rfl
            have HC := Lib.hid hcz2
            clear hcz2 hcs hp
            go_wp2_with fail
            go_round
            case rel => exact ⟨z / 2, jj + 1, by go_num, by go_num, by omega, by omega, HC.out⟩
            case measure => simp [intOf]; omega
        · have h8 : jj = 8 := by omega
          subst h8
          go_wp2_with fail
          go_round
          case rel =>
            refine ⟨k + 1, z, by go_num, rfl, hz, by omega, ?_⟩
            show _ = _
            rw [HQ.out, addC_append, hH.out]
            show crcN 8 (x ^^^ b0.toNat) = z
            rw [HZ.out, ← hcz.out]; rfl
          case measure => simp [intOf]; omega
    · have hk' : k = l.length := by have := HL.out; omega
      rw [hk', List.take_of_length_le (Nat.le_refl _)] at hH
      have hnot := u32_not x hx
      have hv : sumC l = 4294967295 - x := by unfold sumC; rw [hH.out]
      have HV := Lib.hid hv
      clear hv
      go_wp2_with fail
      go_ret
      rw [HV.out]
      exact ⟨rfl, rfl⟩

theorem four_str (x0 x1 x2 x3 : Value) (l : List UInt8) (hl : [x0, x1, x2, x3] = bvs l) (W : World) (g : Nat) (h0 : W.cell? ⟨g, 0, none⟩ = some x0) (h1 : W.cell? ⟨g, 1, none⟩ = some x1) (h2 : W.cell? ⟨g, 2, none⟩ = some x2) (h3 : W.cell? ⟨g, 3, none⟩ = some x3) :
    (convert 26 9 (.slice (some ⟨g, 0, none⟩) 4 4)).run Try.prog W = .ok (.string (tx l)) W := by
  refine run_str (B := g + 1) 4 ⟨by rw [← hl]; rfl, fun _ => ⟨g, 0, rfl, by omega, fun j u hj => ?_⟩⟩
  rw [← hl] at hj
  match j with
  | 0 => simp at hj; rw [← hj, Nat.zero_add, h0]
  | 1 => simp at hj; rw [← hj, Nat.zero_add, h1]
  | 2 => simp at hj; rw [← hj, Nat.zero_add, h2]
  | 3 => simp at hj; rw [← hj, Nat.zero_add, h3]
  | j + 4 => simp at hj
theorem sumB_v (y : Nat) (hy : y < 4294967296) : ([.int .u8 ((y : Int) % 256), .int .u8 ((y : Int) / 256 % 256), .int .u8 ((y : Int) / 65536 % 256), .int .u8 ((y : Int) / 16777216)] : List Value) = bvs (sumB y) := by
  have e1 : (y : Int) % 256 = ((y % 256 : Nat) : Int) := by omega
  have e2 : (y : Int) / 256 % 256 = ((y / 256 % 256 : Nat) : Int) := by omega
  have e3 : (y : Int) / 65536 % 256 = ((y / 65536 % 256 : Nat) : Int) := by omega
  have e4 : (y : Int) / 16777216 = ((y / 16777216 % 256 : Nat) : Int) := by omega
  simp only [bvs, sumB, List.map_cons, List.map_nil, bv_ofNat, e1, e2, e3, e4]

set_option maxRecDepth 100000 in
set_option maxHeartbeats 1600000 in
theorem rseal_any (l : List UInt8) (w : World) (hn : l.length ≤ 1099511627776) :
    Calls Try.prog 66 #[.string (tx l)] w fun e w' => e = .returned (.string (tx (sealB l))) ∧ Up w w' := by
  have hy := sumC_lt l
  have hb := sumB_v (sumC l) hy
  have hv : tx l ++ tx (sumB (sumC l)) = tx (sealB l) := tx_append' _ _
  have hz1 := tx_size l
  have hz2 := tx_size (sumB (sumC l))
  have hsl := sumB_len (sumC l)
  have hsz : ¬ (9223372036854775807 < (tx l).size + (tx (sumB (sumC l))).size) := by omega
  have FS := four_str _ _ _ _ _ hb
  have HV := Lib.hid hv
  clear hb hz1 hz2 hsl hv
  go_enter Try.func66, Try.ntmps66
  go_wp2_with fail
  refine (rsum_any l w (by omega)).mono ?_
  rintro e w1 ⟨rfl, rfl⟩
  generalize sumC l = y at *
  have hc : ∀ j, (w.alloc (.cells #[.int .u8 ((y : Int) % 256), .int .u8 ((y : Int) / 256 % 256), .int .u8 ((y : Int) / 65536 % 256), .int .u8 ((y : Int) / 16777216)] 5)).cell? ⟨w.heap.size, j, none⟩ = #[Value.int .u8 ((y : Int) % 256), .int .u8 ((y : Int) / 256 % 256), .int .u8 ((y : Int) / 65536 % 256), .int .u8 ((y : Int) / 16777216)][j]? := fun j => World.cell?_alloc_at _ _ _ _ rfl
  have FS1 := FS _ _ (hc 0) (hc 1) (hc 2) (hc 3)
  clear FS hc
  go_wp2_with fail
  go_ret
  rw [HV.out]
  exact ⟨rfl, (Up.refl _).alloc _⟩

theorem tx_take (l : List UInt8) (n : Nat) : (tx l).extract 0 n = tx (l.take n) := tx_of (by simp [tx_list])
set_option maxRecDepth 100000 in
set_option maxHeartbeats 1600000 in
theorem ropen_any (l : List UInt8) (w : World) (hn : l.length ≤ 1099511627776) :
    Calls Try.prog 67 #[.string (tx l)] w fun e w' => e = .returned (.tuple #[.string (tx (openL l)), .int .i64 (openE l : Int)]) ∧ Up w w' := by
  have hz := tx_size l
  by_cases h4 : l.length < 4
  · have hE : openE l = 4 := by unfold openE; rw [if_pos h4]
    have hL : openL l = [] := by unfold openL; rw [hE]; rfl
    have HE := Lib.hid hE
    have HO := Lib.hid hL
    clear hE hL
    have h4' : (tx l).size < 4 := by omega
    clear hz
    go_enter Try.func67, Try.ntmps67
    go_wp2_with fail
    go_ret2
    rw [HE.out, HO.out]
    exact ⟨rfl, Up.refl _⟩
  · have hx := tx_take l (l.length - 4)
    have h4' : (4 : Int) ≤ (tx l).size := by omega
    have hle : (tx l).size - 4 = l.length - 4 := by omega
    have hd : decide (((l.length : Nat) : Int) - 4 < 0) = false := by simp; omega
    by_cases hq : sealB (l.take (l.length - 4)) = l
    · have hE : openE l = 0 := by unfold openE; rw [if_neg h4, if_pos hq]
      have hL : openL l = l.take (l.length - 4) := by unfold openL; rw [hE]; rfl
      have HE := Lib.hid hE
      have HO := Lib.hid hL
      have hb := tx_beq hq
      clear hE hL hq
      go_enter Try.func67, Try.ntmps67
      go_wp2_with fail
      refine (rseal_any _ w (by simp; omega)).mono ?_
      rintro e w1 ⟨rfl, hu1⟩
      go_wp2_with fail
      go_ret2
      rw [HE.out, HO.out, ← hx]
      exact ⟨rfl, hu1⟩
    · have hE : openE l = 5 := by unfold openE; rw [if_neg h4, if_neg hq]
      have hL : openL l = [] := by unfold openL; rw [hE]; rfl
      have HE := Lib.hid hE
      have HO := Lib.hid hL
      have hb := tx_bne hq
      clear hE hL hq
      go_enter Try.func67, Try.ntmps67
      go_wp2_with fail
      refine (rseal_any _ w (by simp; omega)).mono ?_
      rintro e w1 ⟨rfl, hu1⟩
      go_wp2_with fail
      go_ret2
      rw [HE.out, HO.out]
      exact ⟨rfl, hu1⟩

set_option maxRecDepth 100000 in
set_option maxHeartbeats 1600000 in
theorem frameok_any (kind : Int) (n : Nat) (w : World) (hn : n ≤ 9223372036854775807) :
    Calls Try.prog 68 #[.int .i64 kind, .int .i64 (n : Int)] w fun e w' => e = .returned (.int .i64 (putE kind n : Int)) ∧ w = w' := by
  by_cases h1 : kind < 1
  · have hE : Hid (putE kind n = 1) := by show _ = _; unfold putE; rw [if_pos (.inl h1)]
    go_enter Try.func68, Try.ntmps68
    go_wp2_with fail
    go_ret
    rw [hE.out]; exact ⟨rfl, rfl⟩
  by_cases h2 : 100 < kind
  · have hE : Hid (putE kind n = 1) := by show _ = _; unfold putE; rw [if_pos (.inr h2)]
    go_enter Try.func68, Try.ntmps68
    go_wp2_with fail
    go_ret
    rw [hE.out]; exact ⟨rfl, rfl⟩
  by_cases h3 : 60000 < n
  · have hE : Hid (putE kind n = 2) := by show _ = _; unfold putE; rw [if_neg (by omega), if_pos h3]
    go_enter Try.func68, Try.ntmps68
    go_wp2_with fail
    go_ret
    rw [hE.out]; exact ⟨rfl, rfl⟩
  · have hE : Hid (putE kind n = 0) := by show _ = _; unfold putE; rw [if_neg (by omega), if_neg h3]
    go_enter Try.func68, Try.ntmps68
    go_wp2_with fail
    go_ret
    rw [hE.out]; exact ⟨rfl, rfl⟩

set_option maxRecDepth 100000 in
set_option maxHeartbeats 1600000 in
/-- Frame, of what may be -/
theorem rframe_any (kind : Int) (l : List UInt8) (w : World) (hk : 1 ≤ kind ∧ kind ≤ 100) (hn : l.length ≤ 60000) :
    Calls Try.prog 39 #[.int .i64 kind, .string (tx l)] w fun e w' => e = .returned (.string (tx (frameB kind l))) ∧ Up w w' := by
  obtain ⟨hk1, hk2⟩ := hk
  have hh : ([.int .u8 kind, .int .u8 ((l.length : Int) / 65536), .int .u8 ((l.length : Int) / 256), .int .u8 ((l.length : Int) % 256)] : List Value) = bvs (headB kind l.length) := by
    have e0 : kind = kind % 256 := by omega
    have e1 : (l.length : Int) / 65536 = ((l.length / 65536 % 256 : Nat) : Int) := by omega
    have e2 : (l.length : Int) / 256 = ((l.length / 256 % 256 : Nat) : Int) := by omega
    have e3 : (l.length : Int) % 256 = ((l.length % 256 : Nat) : Int) := by omega
    simp only [bvs, headB, List.map_cons, List.map_nil, bv_ofNat, bv_byteOf, e1, e2, e3, ← e0]
  have hv : tx (sealB (headB kind l.length)) ++ tx (sealB l) = tx (frameB kind l) := tx_append' _ _
  have hz0 := tx_size l
  have hz1 := tx_size (sealB (headB kind l.length))
  have hz2 := tx_size (sealB l)
  rw [sealB_len] at hz1 hz2
  have hsz : ¬ (9223372036854775807 < (tx (sealB (headB kind l.length))).size + (tx (sealB l)).size) := by rw [hz1, hz2]; simp [headB]; omega
  have FS := four_str _ _ _ _ _ hh
  have hc : ∀ j, (w.alloc (.cells #[.int .u8 kind, .int .u8 ((l.length : Int) / 65536), .int .u8 ((l.length : Int) / 256), .int .u8 ((l.length : Int) % 256)] 5)).cell? ⟨w.heap.size, j, none⟩ = #[Value.int .u8 kind, .int .u8 ((l.length : Int) / 65536), .int .u8 ((l.length : Int) / 256), .int .u8 ((l.length : Int) % 256)][j]? := fun j => World.cell?_alloc_at _ _ _ _ rfl
  have FS1 := FS _ _ (hc 0) (hc 1) (hc 2) (hc 3)
  have hl4 : (headB kind l.length).length = 4 := rfl
  have HV := Lib.hid hv
  clear hv hz1 hz2 FS hc hh
  generalize hH : headB kind l.length = H at *
  have HH := Lib.hid hH
  clear hH
  generalize hN : l.length = N at *
  have HN := Lib.hid hN
  clear hN
  go_enter Try.func39, Try.ntmps39
  go_wp2_with fail
  refine (rseal_any H _ (by omega)).mono ?_
  rintro e w1 ⟨rfl, hu1⟩
  go_wp2_with fail
  refine (rseal_any l _ (by rw [HN.out]; omega)).mono ?_
  rintro e w2 ⟨rfl, hu2⟩
  go_wp2_with fail
  go_ret
  rw [HV.out]
  exact ⟨rfl, (((Up.refl _).alloc _).trans hu1).trans hu2⟩
end Go.Proofs.Ytnjmekjaingniaa

/-
  Plain laws of frames; the walk of the laws' own test.
-/
namespace Go.Proofs.Ytnjmekjaingniaa
open Go.RowKit
set_option linter.unusedVariables false
set_option linter.unusedSimpArgs false

theorem openE_seal (l : List UInt8) : openE (sealB l) = 0 := by
  have h : (sealB l).length - 4 = l.length := by rw [sealB_len]; omega
  have h2 : (sealB l).take l.length = l := by unfold sealB; rw [List.take_left]
  unfold openE
  rw [if_neg (by rw [sealB_len]; omega), h, h2, if_pos rfl]
theorem openL_seal (l : List UInt8) : openL (sealB l) = l := by
  unfold openL
  rw [if_pos (openE_seal l), sealB_len, Nat.add_sub_cancel]
  unfold sealB; rw [List.take_left]
theorem byteOf_nat (k : Nat) (h : k < 256) : (byteOf (k : Int)).toNat = k := by
  unfold byteOf
  rw [show ((k : Int) % 256).toNat = k by omega]
  simp; omega
/-- a frame that stands at the beginning is taken -/
theorem takeR_frame (k : Nat) (l rest : List UInt8) (hk1 : 1 ≤ k) (hk2 : k ≤ 100) (hl : l.length ≤ 60000) : takeR (frameB (k : Int) l ++ rest) = (0, k, l, l.length + 12) := by
  have e : frameB (k : Int) l ++ rest = sealB (headB (k : Int) l.length) ++ (sealB l ++ rest) := by simp [frameB]
  have hh : (sealB (headB (k : Int) l.length)).length = 8 := by rw [sealB_len]; rfl
  have hlen : (frameB (k : Int) l ++ rest).length = 12 + l.length + rest.length := by rw [List.length_append, frameB_len]; omega
  have h8 : (frameB (k : Int) l ++ rest).take 8 = sealB (headB (k : Int) l.length) := by rw [e, ← hh, List.take_left]
  have hd : (frameB (k : Int) l ++ rest).drop 8 = sealB l ++ rest := by rw [e, ← hh, List.drop_left]
  have g : ∀ j, j < 4 → (frameB (k : Int) l ++ rest).getD j 0 = (headB (k : Int) l.length).getD j 0 := by
    intro j hj
    rw [e]
    unfold sealB
    simp only [List.getD_eq_getElem?_getD]
    rw [List.append_assoc, List.getElem?_append_left (by simpa [headB] using hj)]
  have hN : headN (frameB (k : Int) l ++ rest) = l.length := by
    unfold headN
    rw [g 1 (by omega), g 2 (by omega), g 3 (by omega)]
    have e1 : (l.length / 65536) % 256 * 65536 + (l.length / 256) % 256 * 256 + l.length % 256 = l.length := by omega
    simpa [headB, List.getD] using e1
  have h0 : ((frameB (k : Int) l ++ rest).getD 0 0).toNat = k := by rw [g 0 (by omega)]; exact byteOf_nat k (by omega)
  unfold takeR
  have ht : (sealB l ++ rest).take (l.length + 4) = sealB l := by rw [← sealB_len l, List.take_left]
  have ht2 : (sealB l ++ rest).take l.length = l := by unfold sealB; rw [List.append_assoc, List.take_left]
  rw [if_neg (by rw [hlen]; omega), h8, openE_seal, if_neg (by simp), h0, hN, if_neg (by omega), if_neg (by rw [hlen]; omega), hd, ht, openE_seal, if_neg (by simp), ht2]
theorem takeF_frame (b : List UInt8) (k : Nat) (l rest : List UInt8) (hk1 : 1 ≤ k) (hk2 : k ≤ 100) (hl : l.length ≤ 60000) : takeF (b ++ (frameB (k : Int) l ++ rest)) (b.length : Int) = (0, k, l, ((b.length + (l.length + 12) : Nat) : Int)) := by
  unfold takeF
  rw [if_neg (by simp; omega)]
  have e : (b ++ (frameB (k : Int) l ++ rest)).drop ((b.length : Int)).toNat = frameB (k : Int) l ++ rest := by simp
  rw [e, takeR_frame k l rest hk1 hk2 hl]
  simp

end Go.Proofs.Ytnjmekjaingniaa

/-
  Opening arguments: slices of integers as lists of bytes and numbers; bounds of integers.
-/
namespace Go.Proofs.Ytnjmekjaingniaa
open Go.ChangeShapes Go.WideShapes Go.ChangeAt Go.RowKit
set_option linter.unusedVariables false

theorem prog_own : ownKnob Try.prog.godebug = none := by kernel_rfl
theorem laidOut : laidOutB Try.prog = true := by kernel_rfl

theorem bd_i64 {x : Int} (h : (Lit.int .i64 x).wf = true) : -9223372036854775808 ≤ x ∧ x ≤ 9223372036854775807 := by
  simpa [Lit.wf, IntKind.min, IntKind.max, IntKind.signed, IntKind.bits] using h
theorem bd_u64 {x : Int} (h : (Lit.int .u64 x).wf = true) : 0 ≤ x ∧ x ≤ 18446744073709551615 := by
  simpa [Lit.wf, IntKind.min, IntKind.max, IntKind.signed, IntKind.bits] using h
theorem bd_u8 {x : Int} (h : (Lit.int .u8 x).wf = true) : 0 ≤ x ∧ x ≤ 255 := by
  simpa [Lit.wf, IntKind.min, IntKind.max, IntKind.signed, IntKind.bits] using h

theorem rd_ints {W : World} {k : IntKind} {α : Type} (val : α → Value) (ofI : Int → α) (hof : ∀ n, (Lit.int k n).wf = true → val (ofI n) = .int k n) {a : Addr} {len cap : Nat} {zs : List Int}
    (hl : len ≤ cap) (hz : zs.length = cap) (hcell : ∀ i, i < zs.length → W.cell? (a.add i) = some (.int k (zs.getD i 0))) (hwz : ∀ n ∈ zs, (Lit.int k n).wf = true) :
    Rd W W.heap.size 1 (some a) len (((zs.take len).map ofI).map val) := by
  have hm : ((zs.take len).map ofI).map val = (zs.take len).map (Value.int k) := by
    rw [List.map_map]
    exact List.map_congr_left fun n hn => hof n (hwz n (List.mem_of_mem_take hn))
  rw [hm]
  refine ⟨by simp; omega, fun hn => ?_⟩
  obtain ⟨b, o, spot⟩ := a
  have hspot : spot = none := by simpa [Addr.add] using World.cell?_spot (hcell 0 (by omega))
  subst hspot
  refine ⟨b, o, rfl, ?_, fun j u hu => ?_⟩
  · have h0 := hcell 0 (by omega)
    have := World.block_lt_of_cell? W _ h0
    simpa [Addr.add] using this
  · have hj : j < len ∧ j < zs.length := by
      have := (List.getElem?_eq_some_iff.1 hu).1
      simp at this; omega
    have e : (⟨b, o, none⟩ : Addr).add j = ⟨b, o + j, none⟩ := by unfold Addr.add; split <;> simp_all
    rw [← e, hcell j hj.2]
    simp [hj.1, hj.2] at hu
    rw [← hu]
    simp [List.getD, hj.2]

/-- a slice of bytes that came in -/
def IsB (w : World) (A : Option Addr) (n c : Nat) (l : List UInt8) : Prop := Rd w w.heap.size 1 A n (bvs l) ∧ n ≤ c ∧ c ≤ 9223372036854775807

section
variable {H : Type} {enc : TypeId × Value → H} {W : World} {sp : Nat → Bool} {a : Option Addr} {len cap : Nat} {d : DataW H} {p : List MemPlace}
theorem is_b (h : DataW.Trod enc Try.prog W 0 (fun _ => true) true 26 (.slice a len cap) d p) : ∃ l, IsB W a len cap l := by
  obtain ⟨fuel, hf⟩ := h
  rcases open_ints Try.underlying26 Try.underlying5 (by kernel_rfl) hf with ⟨hcs, _⟩ | ⟨x, l, c, zs, hcs, _, hl, hm, hz, _, hcell, hwz⟩
  · simp [Value.cells] at hcs
    obtain ⟨rfl, rfl, rfl⟩ := hcs
    exact ⟨[], Rd.empty, by omega, by omega⟩
  · simp [Value.cells] at hcs
    obtain ⟨rfl, rfl, rfl⟩ := hcs
    refine ⟨_, rd_ints bv (fun n => UInt8.ofNat n.toNat) (fun n hn => ?_) hl (by simpa using hz) hcell hwz, hl, by simpa only [maxLen] using hm⟩
    have := bd_u8 hn
    rw [bv_ofNat]; congr 1; omega
end
end Go.Proofs.Ytnjmekjaingniaa

/-
  Opening arguments: a slice out of its elements.
-/
namespace Go.Proofs.Ytnjmekjaingniaa
open Go.ChangeShapes Go.WideShapes Go.ChangeAt Go.RowKit Go.Deep
set_option linter.unusedVariables false

theorem flat_len {α : Type} (f : α → List Value) {sz : Nat} (hf : ∀ x, (f x).length = sz) (l : List α) : (l.flatMap f).length = l.length * sz := by
  induction l with
  | nil => simp
  | cons x l ih => rw [List.flatMap_cons, List.length_append, hf, ih, List.length_cons, Nat.add_mul]; omega
theorem flat_at {α : Type} (f : α → List Value) {sz : Nat} (hf : ∀ x, (f x).length = sz) (l : List α) {k : Nat} (hk : k < l.length) {j : Nat} (hj : j < sz) : (l.flatMap f)[k * sz + j]? = (f l[k])[j]? := by
  induction l generalizing k with
  | nil => simp at hk
  | cons x l ih =>
    cases k with
    | zero =>
      simp only [List.flatMap_cons, Nat.zero_mul, Nat.zero_add, List.getElem_cons_zero]
      rw [List.getElem?_append_left (by rw [hf]; exact hj)]
    | succ k =>
      have hk' : k < l.length := by simpa using hk
      have := ih hk'
      simp only [List.flatMap_cons, List.getElem_cons_succ]
      rw [List.getElem?_append_right (by rw [hf, Nat.add_mul]; omega), ← this]
      congr 1; rw [hf, Nat.add_mul]; omega

theorem add_at (b o k : Nat) : (⟨b, o, none⟩ : Addr).add k = ⟨b, o + k, none⟩ := by unfold Addr.add; split <;> simp_all
theorem rd_elems {α : Type} [Inhabited α] {W : World} (f : α → List Value) {sz : Nat} (hf : ∀ x, (f x).length = sz) (hsz : 0 < sz) {a : Addr} {len base : Nat}
    (h : ∀ i, i < len → ∃ cs', W.cells? base (a.add (i * sz)) sz = some cs' ∧ ∃ x, cs' = f x) : ∃ l : List α, l.length = len ∧ Rd W W.heap.size sz (some a) len (l.flatMap f) := by
  obtain ⟨g, hg⟩ := choose_lt (p := fun i x => W.cells? base (a.add (i * sz)) sz = some (f x)) (n := len) (fun i hi => by
    obtain ⟨cs', h1, x, rfl⟩ := h i hi
    exact ⟨x, h1⟩)
  refine ⟨(List.range len).map g, by simp, by rw [flat_len f hf]; simp, fun hn => ?_⟩
  obtain ⟨b, o, spot⟩ := a
  have h0 := (World.cells?_some (hg 0 hn)).2.2 0 hsz
  have hx0 : (f (g 0))[0]? = some ((f (g 0))[0]'(by rw [hf]; exact hsz)) := List.getElem?_eq_getElem _
  rw [hx0] at h0
  have add0 : ∀ a : Addr, a.add 0 = a := fun a => by simp [Addr.add]
  rw [Nat.zero_mul, add0, add0] at h0
  have hspot : spot = none := World.cell?_spot h0
  subst hspot
  have hb : b < W.heap.size := World.block_lt_of_cell? W _ h0
  refine ⟨b, o, rfl, hb, fun j u hu => ?_⟩
  have hj : j < len * sz := by
    have := (List.getElem?_eq_some_iff.1 hu).1
    rw [flat_len f hf] at this; simpa using this
  have hi : j / sz < len := by rw [Nat.div_lt_iff_lt_mul hsz]; exact hj
  have hr : j % sz < sz := Nat.mod_lt _ hsz
  have hjj : j = j / sz * sz + j % sz := by rw [Nat.mul_comm]; exact (Nat.div_add_mod j sz).symm
  have hc := (World.cells?_some (hg _ hi)).2.2 _ hr
  have e : ((⟨b, o, none⟩ : Addr).add (j / sz * sz)).add (j % sz) = ⟨b, o + j, none⟩ := by
    rw [add_at, add_at, Nat.add_assoc, ← hjj]
  rw [e] at hc
  have hfl := flat_at f hf ((List.range len).map g) (k := j / sz) (by simpa using hi) hr
  rw [← hjj] at hfl
  rw [hc, ← hu, hfl]
  simp

end Go.Proofs.Ytnjmekjaingniaa

/-
  Opening arguments: slices of slices of bytes.
-/
namespace Go.Proofs.Ytnjmekjaingniaa
open Go.ChangeShapes Go.WideShapes Go.ChangeAt Go.RowKit Go.Deep
set_option linter.unusedVariables false

/-- a slice of slices of bytes that came in -/
def IsR (w : World) (A : Option Addr) (n c : Nat) (ps : List Pt) : Prop := Rd w w.heap.size 1 A n (ps.map Pt.v) ∧ (∀ p ∈ ps, IsB w p.A p.n p.c p.l) ∧ n ≤ c ∧ c ≤ 9223372036854775807
section
variable {H : Type} {enc : TypeId × Value → H} {W : World} {sp : Nat → Bool} {a : Option Addr} {len cap : Nat} {d : DataW H} {p : List MemPlace}
theorem body_cells {fuel : Nat} {cs : List Value} {y : DataW H × List MemPlace} (hf : DataW.trod enc Try.prog W 0 (fun _ => true) true fuel 26 cs = some y) : ∃ p : Pt, cs = [p.v] ∧ IsB W p.A p.n p.c p.l := by
  rcases open_ints Try.underlying26 Try.underlying5 (by kernel_rfl) hf with ⟨hcs, _⟩ | ⟨x, l, c, zs, hcs, _, hl, hm, hz, _, hcell, hwz⟩
  · exact ⟨⟨none, 0, 0, []⟩, hcs, Rd.empty, by simp, by simp⟩
  · refine ⟨⟨some x, l, c, _⟩, hcs, rd_ints bv (fun n => UInt8.ofNat n.toNat) (fun n hn => ?_) hl (by simpa using hz) hcell hwz, hl, by simpa only [maxLen] using hm⟩
    have := bd_u8 hn
    rw [bv_ofNat]; congr 1; omega
instance : Inhabited { p : Pt // IsB W p.A p.n p.c p.l } := ⟨⟨⟨none, 0, 0, []⟩, Rd.empty, by simp, by simp⟩⟩
theorem is_r (h : DataW.Trod enc Try.prog W 0 (fun _ => true) true 66 (.slice a len cap) d p) : ∃ ps, IsR W a len cap ps := by
  obtain ⟨fuel, hf⟩ := h
  rcases open_slice Try.underlying66 hf with ⟨hcs, _⟩ | ⟨x, l, c, m, n, D, Pl, hcs, _, hl, hm, hmm, _, hx⟩
  · simp [Value.cells] at hcs
    obtain ⟨rfl, rfl, rfl⟩ := hcs
    exact ⟨[], Rd.empty, fun p hp => (by cases hp), by omega, by omega⟩
  · simp [Value.cells] at hcs
    obtain ⟨rfl, rfl, rfl⟩ := hcs
    have hC : Try.prog.cellsOf 26 = 1 := by kernel_rfl
    rw [hC] at hx
    obtain ⟨L, hL, hr⟩ := rd_elems (α := { p : Pt // IsB W p.A p.n p.c p.l }) (W := W) (len := len) (a := x) (base := 0) (fun p => [p.1.v]) (sz := 1) (fun _ => rfl) (by omega) (fun i hi => by
      obtain ⟨cs', h1, h2⟩ := hx i (by simp at hmm; omega)
      obtain ⟨p, e, hp⟩ := body_cells h2
      exact ⟨cs', h1, ⟨p, hp⟩, e⟩)
    refine ⟨L.map (·.1), ?_, fun p hp => ?_, hl, by simpa only [maxLen] using hm⟩
    · have e : (L.map (·.1)).map Pt.v = L.flatMap fun p => [p.1.v] := by
        clear hr hL
        induction L with
        | nil => rfl
        | cons q r ih => simp only [List.map_cons, List.flatMap_cons, List.singleton_append, ih]
      rw [e]; exact hr
    · obtain ⟨q, _, rfl⟩ := List.mem_map.1 hp
      exact q.2
end
end Go.Proofs.Ytnjmekjaingniaa

/-
  The walk of the laws' made.
-/
namespace Go.Proofs.Ytnjmekjaingniaa
open Go.RowKit
set_option linter.unusedVariables false
set_option linter.unusedSimpArgs false

/-- the kind of the record with this number -/
def kindOf (k : Nat) : Nat := k * 9 % 100 + 1
theorem kindOf_bd (k : Nat) : 1 ≤ kindOf k ∧ kindOf k ≤ 100 := by unfold kindOf; omega
/-- records, one behind the other, their kinds from number i on -/
def frsB : Nat → List (List UInt8) → List UInt8
  | _, [] => []
  | i, l :: r => frameB (kindOf i : Int) l ++ frsB (i + 1) r
theorem frsB_append : ∀ (i : Nat) (a b : List (List UInt8)), frsB i (a ++ b) = frsB i a ++ frsB (i + a.length) b
  | i, [], b => by simp [frsB]
  | i, l :: r, b => by rw [List.cons_append, frsB, frsB, frsB_append (i + 1) r b, List.append_assoc, List.length_cons]; congr 3; omega
theorem frsB_snoc (L : List (List UInt8)) {k : Nat} (hk : k < L.length) : frsB 0 (L.take (k + 1)) = frsB 0 (L.take k) ++ frameB (kindOf k : Int) (L[k]) := by
  rw [List.take_succ_eq_append_getElem hk, frsB_append, List.length_take, Nat.min_eq_left (by omega), Nat.zero_add]
  simp [frsB]
def endAt (L : List (List UInt8)) (k : Nat) : Nat := (frsB 0 (L.take k)).length
def endsL (L : List (List UInt8)) (k : Nat) : List Nat := (List.range (k + 1)).map (endAt L)
theorem endsL_snoc (L : List (List UInt8)) (k : Nat) : endsL L (k + 1) = endsL L k ++ [endAt L (k + 1)] := by
  unfold endsL; rw [List.range_succ, List.map_append]; rfl
theorem endAt_snoc (L : List (List UInt8)) {k : Nat} (hk : k < L.length) : endAt L (k + 1) = endAt L k + (L[k].length + 12) := by
  unfold endAt; rw [frsB_snoc L hk, List.length_append, frameB_len]

def ptls (ps : List Pt) : List (List UInt8) := ps.map (·.l)
/-- a slice of slices that came in: number k -/
theorem IsR.at_ {w : World} {A : Option Addr} {n c : Nat} {ps : List Pt} (h : IsR w A n c ps) {k : Nat} (hk : k < n) :
    ∃ b o p, A = some ⟨b, o, none⟩ ∧ ps[k]? = some p ∧ (ptls ps)[k]? = some p.l ∧ p.n ≤ p.c ∧ p.n = p.l.length ∧ p.c ≤ 9223372036854775807 ∧ ∀ W, Up w W → W.cell? ⟨b, o + k, none⟩ = some (.slice p.A p.n p.c) ∧ Rd W W.heap.size 1 p.A p.n (bvs p.l) := by
  obtain ⟨hr, hp, hc1, hc2⟩ := h
  have hn : n = ps.length := by have := hr.1; rw [List.length_map] at this; omega
  obtain ⟨b, o, e, hb, hc⟩ := hr.2 (by omega)
  have hkl : k < ps.length := by omega
  have hpm := hp ps[k] (List.getElem_mem _)
  refine ⟨b, o, ps[k], e, List.getElem?_eq_getElem hkl, by simp [ptls, hkl], hpm.2.1, hpm.1.blen, hpm.2.2, fun W hW => ⟨?_, hpm.1.up hW⟩⟩
  have h1 := hc k (ps[k]).v (by simp [hkl])
  exact (hW.cell (p := ⟨b, o + k, none⟩) hb).trans h1
theorem IsR.len {w : World} {A : Option Addr} {n c : Nat} {ps : List Pt} (h : IsR w A n c ps) : n = (ptls ps).length := by have := h.1.1; simp [ptls] at *; omega

end Go.Proofs.Ytnjmekjaingniaa

/-
  Plain laws of rows of frames.
-/
namespace Go.Proofs.Ytnjmekjaingniaa
open Go.RowKit
set_option linter.unusedVariables false
set_option linter.unusedSimpArgs false

def kindsL (i : Nat) (n : Nat) : List Nat := (List.range n).map fun j => kindOf (i + j)
theorem kindsL_len (i n : Nat) : (kindsL i n).length = n := by simp [kindsL]
theorem kindsL_succ (i n : Nat) : kindsL i (n + 1) = kindOf i :: kindsL (i + 1) n := by
  unfold kindsL
  rw [List.range_succ_eq_map, List.map_cons, List.map_map]
  congr 1
  apply List.map_congr_left
  intro j _
  show kindOf (i + (j + 1)) = kindOf (i + 1 + j)
  congr 1; omega
theorem frsB_pos {i : Nat} {l : List UInt8} {r : List (List UInt8)} : 0 < (frsB i (l :: r)).length := by rw [frsB, List.length_append, frameB_len]; omega
/-- Split goes over whole frames -/
theorem splitG_frs (l : List UInt8) : ∀ (L : List (List UInt8)) (i f : Nat) (pre rest : List UInt8) (ks : List Nat) (bs : List (List UInt8)), l = pre ++ (frsB i L ++ rest) → (∀ x ∈ L, x.length ≤ 60000) →
    splitG l (f + L.length) pre.length ks bs = splitG l f (pre.length + (frsB i L).length) (ks ++ kindsL i L.length) (bs ++ L)
  | [], i, f, pre, rest, ks, bs, _, _ => by simp [frsB, kindsL]
  | x :: L, i, f, pre, rest, ks, bs, h, hx => by
    have hkb := kindOf_bd i
    have hx1 := hx x List.mem_cons_self
    have hd : l.drop pre.length = frameB (kindOf i : Int) x ++ (frsB (i + 1) L ++ rest) := by
      rw [h, List.drop_left, frsB, List.append_assoc]
    have ht := takeR_frame (kindOf i) x (frsB (i + 1) L ++ rest) hkb.1 hkb.2 hx1
    have hlt : pre.length < l.length := by
      rw [h, frsB]; simp only [List.length_append, frameB_len]; omega
    rw [List.length_cons, show f + (L.length + 1) = (f + L.length) + 1 by omega]
    conv => lhs; unfold splitG
    rw [if_pos hlt, hd, ht, if_pos rfl]
    have h' : l = (pre ++ frameB (kindOf i : Int) x) ++ (frsB (i + 1) L ++ rest) := by rw [h, frsB]; simp
    have ih := splitG_frs l L (i + 1) f (pre ++ frameB (kindOf i : Int) x) rest (ks ++ [kindOf i]) (bs ++ [x]) h' (fun y hy => hx y (List.mem_cons_of_mem _ hy))
    have hpl : (pre ++ frameB (kindOf i : Int) x).length = pre.length + (x.length + 12) := by rw [List.length_append, frameB_len]
    rw [hpl] at ih
    simp only []
    rw [ih]
    congr 1
    · rw [frsB, List.length_append, frameB_len]; omega
    · rw [kindsL_succ, List.append_assoc]; rfl
    · rw [List.append_assoc]; rfl
/-- a frame that is cut is torn -/
theorem takeR_cut {k : Nat} {l : List UInt8} {j : Nat} (hk1 : 1 ≤ k) (hk2 : k ≤ 100) (hl : l.length ≤ 60000) (hj : j < (frameB (k : Int) l).length) : (takeR ((frameB (k : Int) l).take j)).1 = 4 := by
  have hfl := frameB_len (k : Int) l
  by_cases h8 : j < 8
  · unfold takeR
    rw [if_pos (by rw [List.length_take]; omega)]
  · have e : frameB (k : Int) l = sealB (headB (k : Int) l.length) ++ sealB l := rfl
    have hh : (sealB (headB (k : Int) l.length)).length = 8 := by rw [sealB_len]; rfl
    have hlen : ((frameB (k : Int) l).take j).length = j := by rw [List.length_take]; omega
    have ht8 : ((frameB (k : Int) l).take j).take 8 = sealB (headB (k : Int) l.length) := by
      rw [List.take_take, Nat.min_eq_left (by omega), e, ← hh, List.take_left]
    have g : ∀ q, q < 4 → ((frameB (k : Int) l).take j).getD q 0 = (headB (k : Int) l.length).getD q 0 := by
      intro q hq
      rw [take_getD _ (by omega), e]
      unfold sealB
      simp only [List.getD_eq_getElem?_getD]
      rw [List.append_assoc, List.getElem?_append_left (by simpa [headB] using hq)]
    have hN : headN ((frameB (k : Int) l).take j) = l.length := by
      unfold headN
      rw [g 1 (by omega), g 2 (by omega), g 3 (by omega)]
      have e1 : (l.length / 65536) % 256 * 65536 + (l.length / 256) % 256 * 256 + l.length % 256 = l.length := by omega
      simpa [headB, List.getD] using e1
    have h0 : (((frameB (k : Int) l).take j).getD 0 0).toNat = k := by rw [g 0 (by omega)]; exact byteOf_nat k (by omega)
    unfold takeR
    rw [if_neg (by rw [hlen]; omega), ht8, openE_seal, if_neg (by simp), h0, hN, if_neg (by omega), if_pos (by rw [hlen]; omega)]
/-- rows of frames that are cut: what Split tells -/
theorem split_cut (L : List (List UInt8)) (n k : Nat) (hL : ∀ x ∈ L, x.length ≤ 60000) (hn : n ≤ L.length) (h1 : endAt L n ≤ k) (h2 : n < L.length → k < endAt L (n + 1)) (hk : k ≤ endAt L L.length) :
    splitL ((frsB 0 L).take k) = (kindsL 0 n, L.take n, endAt L n, if k = endAt L n then 0 else 4) := by
  have hfull : endAt L L.length = (frsB 0 L).length := by unfold endAt; rw [List.take_length]
  have hsplit : frsB 0 L = frsB 0 (L.take n) ++ frsB n (L.drop n) := by
    conv => lhs; rw [← List.take_append_drop n L]
    rw [frsB_append, List.length_take, Nat.min_eq_left hn, Nat.zero_add]
  have hl : (frsB 0 L).take k = [] ++ (frsB 0 (L.take n) ++ (frsB n (L.drop n)).take (k - endAt L n)) := by
    rw [hsplit, List.take_append, List.nil_append]
    congr 1
    exact List.take_of_length_le h1
  have hlen : ((frsB 0 L).take k).length = k := by rw [List.length_take, ← hfull]; omega
  have hkn : n ≤ k := by
    have : ∀ n, n ≤ L.length → n ≤ endAt L n := by
      intro n
      induction n with
      | zero => intro _; omega
      | succ m ih => intro hm; have := ih (by omega); rw [endAt_snoc L (show m < L.length by omega)]; omega
    have := this n hn; omega
  have hgo := splitG_frs ((frsB 0 L).take k) (L.take n) 0 (k + 1 - n) [] _ [] [] hl (fun x hx => hL x (List.mem_of_mem_take hx))
  rw [List.length_take, Nat.min_eq_left hn, List.length_nil, Nat.zero_add, List.nil_append, List.nil_append, show k + 1 - n + n = k + 1 by omega] at hgo
  unfold splitL
  rw [hlen, hgo]
  have hend : (frsB 0 (L.take n)).length = endAt L n := rfl
  rw [hend]
  obtain ⟨f, hf⟩ : ∃ f, k + 1 - n = f + 1 := ⟨k - n, by omega⟩
  rw [hf]
  unfold splitG
  by_cases hke : k = endAt L n
  · rw [if_neg (by rw [hlen]; omega), if_pos hke]
  · rw [if_pos (by rw [hlen]; omega)]
    have hnl : n < L.length := by
      rcases Nat.lt_or_ge n L.length with h | h
      · exact h
      · have : n = L.length := by omega
        subst this; omega
    have hd : ((frsB 0 L).take k).drop (endAt L n) = (frameB (kindOf n : Int) L[n]).take (k - endAt L n) := by
      rw [hl, List.nil_append, ← hend, List.drop_left, hend, List.drop_eq_getElem_cons hnl, frsB]
      rw [List.take_append_of_le_length]
      have := h2 hnl
      rw [endAt_snoc L hnl] at this
      rw [frameB_len]; omega
    have hj : k - endAt L n < (frameB (kindOf n : Int) L[n]).length := by
      have := h2 hnl
      rw [endAt_snoc L hnl] at this
      rw [frameB_len]; omega
    have htk := takeR_cut (kindOf_bd n).1 (kindOf_bd n).2 (hL _ (List.getElem_mem hnl)) hj
    rw [hd, htk, if_neg (by decide), if_neg hke]
end Go.Proofs.Ytnjmekjaingniaa

/-
  Sums of texts: what turned bits do to them. Up to three of them are found in any text of less than 2^28 bytes.
-/
namespace Go.Proofs.Ytnjmekjaingniaa
open Go.RowKit
set_option linter.unusedVariables false
set_option linter.unusedSimpArgs false

theorem crcN_add : ∀ (a b n : Nat), crcN (a + b) n = crcN b (crcN a n)
  | 0, b, n => by rw [Nat.zero_add]; rfl
  | a + 1, b, n => by rw [Nat.add_right_comm]; exact crcN_add a b (crcS n)
theorem xor_swap (a b c : Nat) : a ^^^ b ^^^ c = a ^^^ c ^^^ b := by rw [Nat.xor_assoc, Nat.xor_comm b c, ← Nat.xor_assoc]
theorem xor_half (a b : Nat) : (a ^^^ b) / 2 = a / 2 ^^^ b / 2 := Nat.xor_div_two
theorem xor_odd (a b : Nat) : (a ^^^ b) % 2 = (a % 2 + b % 2) % 2 := by
  have h := Nat.xor_mod_two_eq_one (a := a) (b := b)
  have h1 := Nat.mod_two_eq_zero_or_one (a ^^^ b)
  have h2 := Nat.mod_two_eq_zero_or_one a
  have h3 := Nat.mod_two_eq_zero_or_one b
  rcases h1 with h1 | h1 <;> rcases h2 with h2 | h2 <;> rcases h3 with h3 | h3 <;> simp [h1, h2, h3] at h ⊢
theorem crcS_xor (a b : Nat) : crcS (a ^^^ b) = crcS a ^^^ crcS b := by
  have h2 := Nat.mod_two_eq_zero_or_one a
  have h3 := Nat.mod_two_eq_zero_or_one b
  unfold crcS
  rw [xor_odd, xor_half]
  rcases h2 with h2 | h2 <;> rcases h3 with h3 | h3 <;> simp only [h2, h3] <;> simp
  · rw [Nat.xor_assoc]
  · rw [xor_swap]
  · rw [Nat.xor_assoc, Nat.xor_comm (2197175160) (b / 2 ^^^ 2197175160), Nat.xor_assoc, Nat.xor_self, Nat.xor_zero]
theorem crcN_xor : ∀ (k a b : Nat), crcN k (a ^^^ b) = crcN k a ^^^ crcN k b
  | 0, _, _ => rfl
  | k + 1, a, b => by show crcN k (crcS (a ^^^ b)) = _; rw [crcS_xor, crcN_xor k]; rfl
theorem xor_zero_eq {a b : Nat} (h : a ^^^ b = 0) : a = b := by
  have h2 : (a ^^^ b) ^^^ b = 0 ^^^ b := by rw [h]
  rwa [Nat.xor_assoc, Nat.xor_self, Nat.xor_zero, Nat.zero_xor] at h2
theorem crcS_zero {a : Nat} (ha : a < 4294967296) (h : crcS a = 0) : a = 0 := by
  unfold crcS at h
  split at h
  · have := xor_zero_eq h; omega
  · omega
theorem crcN_zero : ∀ (k : Nat) {a : Nat}, a < 4294967296 → crcN k a = 0 → a = 0
  | 0, _, _, h => h
  | k + 1, _, ha, h => crcS_zero ha (crcN_zero k (crcS_lt ha) h)
theorem xor_lt32 {a b : Nat} (ha : a < 4294967296) (hb : b < 4294967296) : a ^^^ b < 4294967296 := by
  have h2 : a ^^^ b < 2 ^ 32 := Nat.xor_lt_two_pow (by omega) (by omega)
  omega
theorem crcN_inj (k : Nat) {a b : Nat} (ha : a < 4294967296) (hb : b < 4294967296) (h : crcN k a = crcN k b) : a = b :=
  xor_zero_eq (crcN_zero k (xor_lt32 ha hb) (by rw [crcN_xor, h, Nat.xor_self]))

/-- how many of the first k bits are set: odd or not -/
def par : Nat → Nat → Bool
  | 0, _ => false
  | k + 1, n => (n % 2 == 1) ^^ par k (n / 2)
theorem par_xor : ∀ (k a b : Nat), par k (a ^^^ b) = (par k a ^^ par k b)
  | 0, _, _ => rfl
  | k + 1, a, b => by
    unfold par
    rw [xor_odd, xor_half, par_xor k]
    have h2 := Nat.mod_two_eq_zero_or_one a
    have h3 := Nat.mod_two_eq_zero_or_one b
    rcases h2 with h2 | h2 <;> rcases h3 with h3 | h3 <;> simp [h2, h3]
theorem par_zero : ∀ k, par k 0 = false
  | 0 => rfl
  | k + 1 => by unfold par; simp [par_zero k]
theorem par_more : ∀ (k n : Nat), n < 2 ^ k → par (k + 1) n = par k n
  | 0, n, h => by
    have : n = 0 := by simpa using h
    subst this; rfl
  | k + 1, n, h => by
    conv => lhs; unfold par
    conv => rhs; unfold par
    rw [par_more k (n / 2) (by rw [Nat.pow_succ] at h; omega)]
theorem par_crcS {n : Nat} (h : n < 4294967296) : par 32 (crcS n) = par 32 n := by
  have e : par 32 n = ((n % 2 == 1) ^^ par 31 (n / 2)) := rfl
  have e2 := par_more 31 (n / 2) (by omega)
  rw [e, ← e2]
  unfold crcS
  split
  · rename_i h1
    rw [par_xor, h1, show par 32 2197175160 = true by decide]
    cases par 32 (n / 2) <;> rfl
  · rename_i h1
    rw [show (n % 2 == 1) = false by simp; omega]
    simp
theorem par_crcN : ∀ (k : Nat) {n : Nat}, n < 4294967296 → par 32 (crcN k n) = par 32 n
  | 0, _, _ => rfl
  | k + 1, _, h => (par_crcN k (crcS_lt h)).trans (par_crcS h)

/-- a sum that goes on from two registers together -/
theorem addC_lin (l : List UInt8) : ∀ (u v : Nat), addC (u ^^^ v) l = addC u l ^^^ crcN (8 * l.length) v := by
  induction l with
  | nil => intro u v; rfl
  | cons b l ih =>
    intro u v
    show addC (crcB (u ^^^ v) b) l = addC (crcB u b) l ^^^ _
    have e : crcB (u ^^^ v) b = crcB u b ^^^ crcN 8 v := by
      unfold crcB
      rw [xor_swap, crcN_xor]
    rw [e, ih, List.length_cons, show 8 * (l.length + 1) = 8 + 8 * l.length by omega, crcN_add]
theorem addC_set (m : UInt8) : ∀ (l : List UInt8) (n i : Nat), i < l.length → addC n (l.set i (l.getD i 0 ^^^ m)) = addC n l ^^^ crcN (8 * (l.length - i)) m.toNat
  | b :: l, n, 0, _ => by
    show addC (crcB n (b ^^^ m)) l = addC (crcB n b) l ^^^ _
    have e : crcB n (b ^^^ m) = crcB n b ^^^ crcN 8 m.toNat := by
      unfold crcB
      rw [UInt8.toNat_xor, ← Nat.xor_assoc, crcN_xor]
    rw [e, addC_lin, List.length_cons, show 8 * (l.length + 1 - 0) = 8 + 8 * l.length by omega, crcN_add]
  | b :: l, n, i + 1, h => by
    have h2 : i < l.length := by simpa using h
    show addC (crcB n b) (l.set i (l.getD i 0 ^^^ m)) = addC (crcB n b) l ^^^ _
    rw [addC_set m l _ i h2, List.length_cons, show l.length + 1 - (i + 1) = l.length - i by omega]

/-- one bit turned -/
def flipB (l : List UInt8) (p : Nat) : List UInt8 := l.set (p / 8) (l.getD (p / 8) 0 ^^^ UInt8.ofNat (2 ^ (p % 8)))
theorem flipB_len (l : List UInt8) (p : Nat) : (flipB l p).length = l.length := by unfold flipB; rw [List.length_set]
def flipsB (l : List UInt8) (ps : List Nat) : List UInt8 := ps.foldl flipB l
theorem flipsB_len : ∀ (ps : List Nat) (l : List UInt8), (flipsB l ps).length = l.length
  | [], _ => rfl
  | p :: ps, l => (flipsB_len ps (flipB l p)).trans (flipB_len l p)
theorem pow_bits : ∀ t, t < 8 → crcN t (2 ^ t) = 1 ∧ (UInt8.ofNat (2 ^ t)).toNat = 2 ^ t := by decide
theorem addC_flip {l : List UInt8} {p : Nat} (n : Nat) (h : p < 8 * l.length) : addC n (flipB l p) = addC n l ^^^ crcN (8 * l.length - p) 1 := by
  unfold flipB
  rw [addC_set _ _ _ _ (by omega)]
  obtain ⟨h1, h2⟩ := pow_bits (p % 8) (by omega)
  rw [h2, show 8 * (l.length - p / 8) = p % 8 + (8 * l.length - p) by omega, crcN_add, h1]
theorem flipB_flipB {l : List UInt8} {p : Nat} (h : p < 8 * l.length) : flipB (flipB l p) p = l := by
  have h8 : p / 8 < l.length := by omega
  unfold flipB
  have e : (l.set (p / 8) (l.getD (p / 8) 0 ^^^ UInt8.ofNat (2 ^ (p % 8)))).getD (p / 8) 0 = l.getD (p / 8) 0 ^^^ UInt8.ofNat (2 ^ (p % 8)) := by
    simp [List.getD, h8]
  rw [e, List.set_set, UInt8.xor_assoc, UInt8.xor_self, UInt8.xor_zero]
  simp [List.getD, h8]

-- the order of the step

/-- a linear step of 32 bits by its columns -/
def appC : List Nat → Nat → Nat
  | [], _ => 0
  | c :: cs, n => if n % 2 = 1 then c ^^^ appC cs (n / 2) else appC cs (n / 2)
theorem appC_eq (g : Nat → Nat) (g0 : g 0 = 0) (gx : ∀ a b, g (a ^^^ b) = g a ^^^ g b) : ∀ (k i n : Nat), n < 2 ^ k → appC ((List.range' i k).map fun j => g (2 ^ j)) n = g (n * 2 ^ i)
  | 0, i, n, h => by
    have : n = 0 := by simpa using h
    subst this
    rw [Nat.zero_mul, g0]; rfl
  | k + 1, i, n, h => by
    rw [List.range'_succ, List.map_cons]
    have hlt : n / 2 < 2 ^ k := by rw [Nat.pow_succ] at h; omega
    have ih := appC_eq g g0 gx k (i + 1) (n / 2) hlt
    unfold appC
    rw [ih]
    have e2 : n / 2 * 2 ^ (i + 1) = 2 * (n / 2) * 2 ^ i := by rw [Nat.pow_succ]; rw [Nat.mul_comm (2 ^ i) 2, ← Nat.mul_assoc, Nat.mul_comm (n / 2) 2]
    split
    · rename_i h1
      rw [← gx]
      congr 1
      rw [e2]
      have h3 : n * 2 ^ i = 2 * (n / 2) * 2 ^ i + 2 ^ i := by
        have : n = 2 * (n / 2) + 1 := by omega
        conv => lhs; rw [this]
        rw [Nat.add_mul, Nat.one_mul]
      rw [h3]
      apply Nat.eq_of_testBit_eq
      intro j
      rw [show 2 * (n / 2) * 2 ^ i + 2 ^ i = (2 * (n / 2) + 1) * 2 ^ i by rw [Nat.add_mul, Nat.one_mul], Nat.testBit_xor, Nat.testBit_mul_two_pow, Nat.testBit_mul_two_pow, Nat.testBit_two_pow]
      by_cases hj : i ≤ j
      · obtain ⟨q, rfl⟩ : ∃ q, j = i + q := ⟨j - i, by omega⟩
        rw [show i + q - i = q by omega]
        cases q with
        | zero => simp
        | succ q =>
          simp [Nat.testBit_succ]
          rw [show (2 * (n / 2) + 1) / 2 = n / 2 by omega]
      · simp [hj]
        intro h; omega
    · rename_i h1
      rw [e2, show 2 * (n / 2) = n by omega]
def colsC : Nat → List Nat
  | 0 => (List.range' 0 32).map fun j => crcS (2 ^ j)
  | k + 1 => (colsC k).map (appC (colsC k))
theorem crcN_0 (k : Nat) : crcN k 0 = 0 := by
  have h := crcN_xor k 0 0
  rw [Nat.xor_self, Nat.xor_self] at h
  exact h
theorem colsC_eq : ∀ k, colsC k = (List.range' 0 32).map fun j => crcN (2 ^ k) (2 ^ j)
  | 0 => rfl
  | k + 1 => by
    show (colsC k).map (appC (colsC k)) = _
    rw [colsC_eq k, List.map_map]
    apply List.map_congr_left
    intro j hj
    show appC _ (crcN (2 ^ k) (2 ^ j)) = _
    have hj2 : j < 32 := by simp [List.mem_range'] at hj; omega
    have hlt : 2 ^ j < 4294967296 := Nat.pow_lt_pow_right (by omega) hj2
    have h := appC_eq (fun x => crcN (2 ^ k) x) (crcN_0 _) (crcN_xor _) 32 0 (crcN (2 ^ k) (2 ^ j)) (crcN_lt _ hlt)
    rw [h]
    show crcN (2 ^ k) (crcN (2 ^ k) (2 ^ j) * 2 ^ 0) = crcN (2 ^ (k + 1)) (2 ^ j)
    rw [Nat.pow_zero, Nat.mul_one, ← crcN_add, Nat.pow_succ, Nat.mul_two]
/-- the columns, step by step, each list made once -/
def stepC : Nat → List Nat → List Nat
  | 0, l => l
  | k + 1, l => stepC k (l.map (appC l))
theorem stepC_eq : ∀ k j, stepC k (colsC j) = colsC (j + k)
  | 0, _ => rfl
  | k + 1, j => by
    show stepC k (colsC (j + 1)) = _
    rw [stepC_eq k (j + 1), Nat.add_right_comm, Nat.add_assoc]
def colK0 : List Nat := [2197175160, 1, 2, 4, 8, 16, 32, 64, 128, 256, 512, 1024, 2048, 4096, 8192, 16384, 32768, 65536, 131072, 262144, 524288, 1048576, 2097152, 4194304, 8388608, 16777216, 33554432, 67108864, 134217728, 268435456, 536870912, 1073741824]
def colK1 : List Nat := [1098587580, 2197175160, 1, 2, 4, 8, 16, 32, 64, 128, 256, 512, 1024, 2048, 4096, 8192, 16384, 32768, 65536, 131072, 262144, 524288, 1048576, 2097152, 4194304, 8388608, 16777216, 33554432, 67108864, 134217728, 268435456, 536870912]
def colK2 : List Nat := [274646895, 549293790, 1098587580, 2197175160, 1, 2, 4, 8, 16, 32, 64, 128, 256, 512, 1024, 2048, 4096, 8192, 16384, 32768, 65536, 131072, 262144, 524288, 1048576, 2097152, 4194304, 8388608, 16777216, 33554432, 67108864, 134217728]
def colK3 : List Nat := [4067132163, 3778769143, 3348797215, 2329499855, 274646895, 549293790, 1098587580, 2197175160, 1, 2, 4, 8, 16, 32, 64, 128, 256, 512, 1024, 2048, 4096, 8192, 16384, 32768, 65536, 131072, 262144, 524288, 1048576, 2097152, 4194304, 8388608]
def colK4 : List Nat := [329422967, 658845934, 1317691868, 2635383736, 1069937025, 2139874050, 4279748100, 4223924985, 4067132163, 3778769143, 3348797215, 2329499855, 274646895, 549293790, 1098587580, 2197175160, 1, 2, 4, 8, 16, 32, 64, 128, 256, 512, 1024, 2048, 4096, 8192, 16384, 32768]
def colK5 : List Nat := [3712330424, 3211207553, 2065838579, 4131677158, 3915690301, 3609531531, 2879807463, 1386268991, 2772537982, 1332695565, 2665391130, 944848581, 1889697162, 3779394324, 3345318105, 2334619459, 329422967, 658845934, 1317691868, 2635383736, 1069937025, 2139874050, 4279748100, 4223924985, 4067132163, 3778769143, 3348797215, 2329499855, 274646895, 549293790, 1098587580, 2197175160]
def colK6 : List Nat := [1228700967, 2457401934, 555582061, 1111164122, 2222328244, 218129817, 436259634, 872519268, 1745038536, 3490077072, 2782971345, 1311636819, 2623273638, 1029407677, 2058815354, 4117630708, 4012927769, 3683426499, 3002414967, 1611012127, 3222024254, 2247366285, 235166699, 470333398, 940666796, 1881333592, 3762667184, 3311864721, 2401395155, 464041303, 928082606, 1856165212]
def colK7 : List Nat := [4060876286, 3790892301, 3322195179, 2313498407, 371599551, 743199102, 1486398204, 2972796408, 1737424129, 3474848258, 2614592245, 843281179, 1686562358, 3373124716, 2549607977, 704883363, 1409766726, 2819533452, 1441866729, 2883733458, 1378416981, 2756833962, 1297060773, 2594121546, 819083365, 1638166730, 3276333460, 2206053849, 51846467, 103692934, 207385868, 414771736]
def colK8 : List Nat := [1034342603, 2068685206, 4137370412, 3906662569, 3562641315, 2908707255, 1599260063, 3198520126, 2024235149, 4048470298, 3883005125, 3406798715, 2482194439, 571139839, 1142279678, 2284559356, 364593417, 729186834, 1458373668, 2916747336, 1582851681, 3165703362, 2089676661, 4179353322, 4158376741, 3931889851, 3512448903, 2807765503, 1264207119, 2528414238, 679830221, 1359660442]
def colK9 : List Nat := [1947135746, 3894271492, 3587689209, 2923684611, 1500229879, 3000459758, 1614984493, 3229968986, 2229707333, 203502203, 407004406, 814008812, 1628017624, 3256035248, 2177513873, 108529107, 217058214, 434116428, 868232856, 1736465712, 3472931424, 2616001073, 842429075, 1684858150, 3369716300, 2489311849, 760459811, 1520919622, 3041839244, 1869735913, 3739471826, 3089885525]
def colK10 : List Nat := [1771228834, 3542457668, 2745650297, 1117974019, 2235948038, 258461437, 516922874, 1033845748, 2067691496, 4135382992, 3910510929, 3620152403, 2858565207, 1361578591, 2723157182, 1095524237, 2191048474, 14485701, 28971402, 57942804, 115885608, 231771216, 463542432, 927084864, 1854169728, 3708339456, 3221093617, 2048364307, 4096728614, 3987884733, 3733513099, 3103633895]
def colK11 : List Nat := [3702618788, 3163456441, 2096198019, 4192396038, 4129927421, 3921614603, 3599915239, 2831730495, 1417541775, 2835083550, 1411093709, 2822187418, 1434592709, 2869185418, 1407508965, 2815017930, 1249898853, 2499797706, 739488613, 1478977226, 2957954452, 1701965273, 3403930546, 2418786709, 633075163, 1266150326, 2532300652, 674486313, 1348972626, 2697945252, 1148368825, 2296737650]
def colK12 : List Nat := [3178201592, 2134078721, 4268157442, 4179731189, 4155454235, 3937538247, 3498596223, 2768033807, 1276495599, 2552991198, 901475661, 1802951322, 3605902644, 2822184089, 1434603459, 2869206918, 1407535613, 2815071226, 1249464581, 2498929162, 738800357, 1477600714, 2955201428, 1705370073, 3410740146, 2474373525, 589010395, 1178020790, 2356041580, 489740329, 979480658, 1958961316]
def colK13 : List Nat := [4264641112, 4186894913, 4143026803, 3893318167, 3589460703, 2919879503, 1509937263, 3019874526, 1645426509, 3290853018, 2376117189, 514662779, 1029325558, 2058651116, 4117302232, 4013842753, 3683693683, 2999787031, 1618365151, 3236730302, 2218089869, 226938347, 453876694, 907753388, 1815506776, 3631013552, 3040201617, 1871176147, 3742352294, 3153326525, 1913361803, 3826723606]
def colK14 : List Nat := [4149242244, 3947668985, 3547675907, 2735082743, 1138781983, 2277563966, 174967437, 349934874, 699869748, 1399739496, 2799478992, 1213540177, 2427080354, 616098741, 1232197482, 2464394964, 539700057, 1079400114, 2158800228, 78982201, 157964402, 315928804, 631857608, 1263715216, 2527430432, 682064049, 1364128098, 2728256196, 1087878009, 2175756018, 112376597, 224753194]
def colK15 : List Nat := [3265640030, 2158434893, 77742699, 155485398, 310970796, 621941592, 1243883184, 2487766368, 763161649, 1526323298, 3052646596, 1846220665, 3692441330, 3183487765, 2121015515, 4242031030, 4233950621, 4250246603, 4282862951, 4217564223, 4079595151, 3820956655, 3264356655, 2160604335, 75243439, 150486878, 300973756, 601947512, 1203895024, 2407790048, 451648817, 903297634]
def colK16 : List Nat := [3762348204, 3312301993, 2402752931, 461522359, 923044718, 1846089436, 3692178872, 3184012673, 2122067443, 4244134886, 4229742909, 4258657419, 4266106855, 4184033599, 4146783375, 3954819055, 3533637935, 2698142895, 1145618351, 2291236702, 349079629, 698159258, 1396318516, 2792637032, 1225060897, 2450121794, 570408565, 1140817130, 2281634260, 168920409, 337840818, 675681636]
def colK17 : List Nat := [3351957165, 2323245995, 287285671, 574571342, 1149142684, 2298285368, 337013889, 674027778, 1348055556, 2696111112, 1149943521, 2299887042, 398888309, 797776618, 1595553236, 3191106472, 2038735265, 4077470530, 3825135733, 3255932443, 2177850055, 108184447, 216368894, 432737788, 865475576, 1730951152, 3461902304, 2572986673, 928326803, 1856653606, 3713307212, 3208991337]
def colK18 : List Nat := [83680447, 167360894, 334721788, 669443576, 1338887152, 2677774304, 987453745, 1974907490, 3949814980, 3543580537, 2743142403, 1122920183, 2245840366, 240512301, 481024602, 962049204, 1924098408, 3848196816, 3478246225, 2605699155, 863229527, 1726459054, 3452918108, 2658321481, 956956259, 1913912518, 3827825036, 3450045929, 2662038819, 951749815, 1903499630, 3806999260]
def colK19 : List Nat := [1806683169, 3613366338, 2874361461, 1397422619, 2794845238, 1221041821, 2442083642, 653397125, 1306794250, 2613588500, 846992089, 1693984178, 3387968356, 2517426233, 703968899, 1407937798, 2815875596, 1245823721, 2491647442, 753630549, 1507261098, 3014522196, 1656200281, 3312400562, 2402420629, 461928923, 923857846, 1847715692, 3695431384, 3177966401, 2134614131, 4269228262]
def colK20 : List Nat := [335823302, 671646604, 1343293208, 2686586416, 1168665233, 2337330466, 323869877, 647739754, 1295479508, 2590959016, 825343393, 1650686786, 3301373572, 2355207161, 489636099, 979272198, 1958544396, 3917088792, 3608700609, 2883369843, 1381302295, 2762604590, 1287157421, 2574314842, 923642949, 1847285898, 3694571796, 3179353305, 2129551171, 4259102342, 4266986493, 4182139147]
def colK21 : List Nat := [1746360842, 3492721684, 2779848409, 1317948227, 2635896454, 1070947325, 2141894650, 4283789300, 4215712025, 4083229891, 3811458935, 3283093535, 2190239439, 16038767, 32077534, 64155068, 128310136, 256620272, 513240544, 1026481088, 2052962176, 4105924352, 3969558769, 3705218835, 3160291543, 2102396767, 4204793534, 4037831565, 3837043179, 3431281959, 2632326335, 1008750479]
def colK22 : List Nat := [3791599207, 3323075135, 2311602831, 377287663, 754575326, 1509150652, 3018301304, 1646479361, 3292958722, 2371966709, 523164443, 1046328886, 2092657772, 4185315544, 4144088897, 3958372467, 3526592023, 2710272735, 1190822735, 2381645470, 503741389, 1007482778, 2014965556, 4029931112, 3851143713, 3472614067, 2551952279, 903549407, 1807098814, 3614197628, 2872375305, 1401259747]
def colK23 : List Nat := [2339516652, 319297321, 638594642, 1277189284, 2554378568, 896336993, 1792673986, 3585347972, 2927908345, 1491393795, 2982787590, 1719599869, 3439199738, 2618326277, 1036815611, 2073631222, 4147262444, 3951563049, 3539752099, 2685722551, 1170590111, 2341180222, 318460045, 636920090, 1273840180, 2547680360, 710508065, 1421016130, 2842032260, 1462208505, 2924417010, 1500670229]
def colK24 : List Nat := [1444372256, 2888744512, 1571883633, 3143767266, 1932025653, 3864051306, 3377269285, 2541118139, 721466247, 1442932494, 2885864988, 1575611081, 3151222162, 1917574613, 3835149226, 3435332005, 2624222651, 1027120519, 2054241038, 4108482076, 3962084041, 3720168291, 3197562935, 2025952927, 4051905854, 3874106509, 3359125483, 2510039335, 785654975, 1571309950, 3142619900, 1934447369]
def colK25 : List Nat := [3114523856, 1990971217, 3981942434, 3745729461, 3144343963, 1933161927, 3866323854, 3372917229, 2549691691, 706616487, 1413232974, 2826465948, 1427936201, 2855872402, 1369323989, 2738647978, 1133810085, 2267620170, 197013605, 394027210, 788054420, 1576108840, 3152217680, 1915386449, 3830772898, 3443892149, 2674346395, 992142791, 1984285582, 3968571164, 3707459785, 3155871587]
def colK26 : List Nat := [3710744734, 3216410573, 2055305579, 4110611158, 4025062237, 3661582411, 2979190375, 1724504639, 3449009278, 2664111629, 947538667, 1895077334, 3790154668, 3325960617, 2307929507, 382475703, 764951406, 1529902812, 3059805624, 1764601217, 3529202434, 2707079413, 1197078299, 2394156598, 411806365, 823612730, 1647225460, 3294450920, 2371280673, 524404915, 1048809830, 2097619660]
def colK27 : List Nat := [1141075018, 2282150036, 367118297, 734236594, 1468473188, 2936946376, 1542458209, 3084916418, 1781291893, 3562583786, 2908560165, 1599488187, 3198976374, 2025157661, 4050315322, 3879315077, 3416210427, 2463236359, 541619455, 1083238910, 2166477820, 128962825, 257925650, 515851300, 1031702600, 2063405200, 4126810400, 3994563761, 3655081875, 3058977239, 1766122847, 3532245694]
def colK28 : List Nat := [1175610749, 2351221498, 497410821, 994821642, 1989643284, 3979286568, 3753002657, 3129539507, 1895661975, 3791323950, 3323621549, 2312673195, 375216551, 750433102, 1500866204, 3001732408, 1614408833, 3228817666, 2232141045, 268173083, 536346166, 1072692332, 2145384664, 4290769328, 4203976081, 4039859667, 3833253207, 3441028191, 2682236495, 978528879, 1957057758, 3914115516]
def colK29 : List Nat := [1481463145, 2962926290, 1691951957, 3383903914, 2525559717, 687702459, 1375404918, 2750809836, 1107327785, 2214655570, 233675349, 467350698, 934701396, 1869402792, 3738805584, 3093249105, 1968311891, 3936623782, 3500429245, 2762271115, 1285924327, 2571848654, 930799981, 1861599962, 3723199924, 3191569817, 2040171971, 4080343942, 3817226749, 3269522699, 2150472935, 95899455]
def colK30 : List Nat := [3905762274, 3564507445, 2902480027, 1609359303, 3218718606, 2053048813, 4106097626, 3968880965, 3704411259, 3161841159, 2097662719, 4195325438, 4059258125, 3859467499, 3388600103, 2518657215, 701704079, 1403408158, 2806816316, 1265977993, 2531955986, 674847957, 1349695914, 2699391828, 1143378009, 2286756018, 360069013, 720138026, 1440276052, 2880552104, 1385107361, 2770214722]
def colK31 : List Nat := [2197175160, 1, 2, 4, 8, 16, 32, 64, 128, 256, 512, 1024, 2048, 4096, 8192, 16384, 32768, 65536, 131072, 262144, 524288, 1048576, 2097152, 4194304, 8388608, 16777216, 33554432, 67108864, 134217728, 268435456, 536870912, 1073741824]
theorem colK0_eq : colsC 0 = colK0 := by decide
theorem colK1_eq : colsC 1 = colK1 := by
  show (colsC 0).map (appC (colsC 0)) = _
  rw [colK0_eq]
  kernel_rfl
theorem colK2_eq : colsC 2 = colK2 := by
  show (colsC 1).map (appC (colsC 1)) = _
  rw [colK1_eq]
  kernel_rfl
theorem colK3_eq : colsC 3 = colK3 := by
  show (colsC 2).map (appC (colsC 2)) = _
  rw [colK2_eq]
  kernel_rfl
theorem colK4_eq : colsC 4 = colK4 := by
  show (colsC 3).map (appC (colsC 3)) = _
  rw [colK3_eq]
  kernel_rfl
theorem colK5_eq : colsC 5 = colK5 := by
  show (colsC 4).map (appC (colsC 4)) = _
  rw [colK4_eq]
  kernel_rfl
theorem colK6_eq : colsC 6 = colK6 := by
  show (colsC 5).map (appC (colsC 5)) = _
  rw [colK5_eq]
  kernel_rfl
theorem colK7_eq : colsC 7 = colK7 := by
  show (colsC 6).map (appC (colsC 6)) = _
  rw [colK6_eq]
  kernel_rfl
theorem colK8_eq : colsC 8 = colK8 := by
  show (colsC 7).map (appC (colsC 7)) = _
  rw [colK7_eq]
  kernel_rfl
theorem colK9_eq : colsC 9 = colK9 := by
  show (colsC 8).map (appC (colsC 8)) = _
  rw [colK8_eq]
  kernel_rfl
theorem colK10_eq : colsC 10 = colK10 := by
  show (colsC 9).map (appC (colsC 9)) = _
  rw [colK9_eq]
  kernel_rfl
theorem colK11_eq : colsC 11 = colK11 := by
  show (colsC 10).map (appC (colsC 10)) = _
  rw [colK10_eq]
  kernel_rfl
theorem colK12_eq : colsC 12 = colK12 := by
  show (colsC 11).map (appC (colsC 11)) = _
  rw [colK11_eq]
  kernel_rfl
theorem colK13_eq : colsC 13 = colK13 := by
  show (colsC 12).map (appC (colsC 12)) = _
  rw [colK12_eq]
  kernel_rfl
theorem colK14_eq : colsC 14 = colK14 := by
  show (colsC 13).map (appC (colsC 13)) = _
  rw [colK13_eq]
  kernel_rfl
theorem colK15_eq : colsC 15 = colK15 := by
  show (colsC 14).map (appC (colsC 14)) = _
  rw [colK14_eq]
  kernel_rfl
theorem colK16_eq : colsC 16 = colK16 := by
  show (colsC 15).map (appC (colsC 15)) = _
  rw [colK15_eq]
  kernel_rfl
theorem colK17_eq : colsC 17 = colK17 := by
  show (colsC 16).map (appC (colsC 16)) = _
  rw [colK16_eq]
  kernel_rfl
theorem colK18_eq : colsC 18 = colK18 := by
  show (colsC 17).map (appC (colsC 17)) = _
  rw [colK17_eq]
  kernel_rfl
theorem colK19_eq : colsC 19 = colK19 := by
  show (colsC 18).map (appC (colsC 18)) = _
  rw [colK18_eq]
  kernel_rfl
theorem colK20_eq : colsC 20 = colK20 := by
  show (colsC 19).map (appC (colsC 19)) = _
  rw [colK19_eq]
  kernel_rfl
theorem colK21_eq : colsC 21 = colK21 := by
  show (colsC 20).map (appC (colsC 20)) = _
  rw [colK20_eq]
  kernel_rfl
theorem colK22_eq : colsC 22 = colK22 := by
  show (colsC 21).map (appC (colsC 21)) = _
  rw [colK21_eq]
  kernel_rfl
theorem colK23_eq : colsC 23 = colK23 := by
  show (colsC 22).map (appC (colsC 22)) = _
  rw [colK22_eq]
  kernel_rfl
theorem colK24_eq : colsC 24 = colK24 := by
  show (colsC 23).map (appC (colsC 23)) = _
  rw [colK23_eq]
  kernel_rfl
theorem colK25_eq : colsC 25 = colK25 := by
  show (colsC 24).map (appC (colsC 24)) = _
  rw [colK24_eq]
  kernel_rfl
theorem colK26_eq : colsC 26 = colK26 := by
  show (colsC 25).map (appC (colsC 25)) = _
  rw [colK25_eq]
  kernel_rfl
theorem colK27_eq : colsC 27 = colK27 := by
  show (colsC 26).map (appC (colsC 26)) = _
  rw [colK26_eq]
  kernel_rfl
theorem colK28_eq : colsC 28 = colK28 := by
  show (colsC 27).map (appC (colsC 27)) = _
  rw [colK27_eq]
  kernel_rfl
theorem colK29_eq : colsC 29 = colK29 := by
  show (colsC 28).map (appC (colsC 28)) = _
  rw [colK28_eq]
  kernel_rfl
theorem colK30_eq : colsC 30 = colK30 := by
  show (colsC 29).map (appC (colsC 29)) = _
  rw [colK29_eq]
  kernel_rfl
theorem colK31_eq : colsC 31 = colK31 := by
  show (colsC 30).map (appC (colsC 30)) = _
  rw [colK30_eq]
  kernel_rfl
theorem crcN_big : crcN (2 ^ 31) 1 = crcN 1 1 := by
  have h : (colsC 31).getD 0 0 = 2197175160 := by rw [colK31_eq]; rfl
  have e : ∀ f : Nat → Nat, ((List.range' 0 32).map f).getD 0 0 = f 0 := fun f => rfl
  rw [colsC_eq, e] at h
  rw [show crcN 1 1 = 2197175160 by decide]
  rw [Nat.pow_zero] at h
  exact h
theorem crcN_per : crcN 2147483647 1 = 1 := by
  have h := crcN_big
  rw [show 2 ^ 31 = 2147483647 + 1 by decide, crcN_add] at h
  exact crcN_inj 1 (crcN_lt _ (by decide)) (by decide) h

/-- no number of a row of 2 ^ k divides the great prime -/
def noDiv : Nat → Nat → Bool
  | 0, lo => 2147483647 % lo != 0
  | k + 1, lo => noDiv k lo && noDiv k (lo + 2 ^ k)
theorem noDiv_at : ∀ (k lo : Nat), noDiv k lo = true → ∀ t, lo ≤ t → t < lo + 2 ^ k → 2147483647 % t ≠ 0
  | 0, lo, h, t, h1, h2 => by
    have : t = lo := by rw [Nat.pow_zero] at h2; omega
    subst this
    simpa [noDiv] using h
  | k + 1, lo, h, t, h1, h2 => by
    unfold noDiv at h
    rw [Bool.and_eq_true] at h
    rw [Nat.pow_succ] at h2
    by_cases ht : t < lo + 2 ^ k
    · exact noDiv_at k lo h.1 t h1 ht
    · exact noDiv_at k (lo + 2 ^ k) h.2 t (by omega) (by omega)
theorem prime_M {g h : Nat} (e : 2147483647 = g * h) (hg : 1 < g) : h ≤ 1 := by
  have key : ∀ t, 2 ≤ t → t < 2 + 2 ^ 16 → 2147483647 % t ≠ 0 := noDiv_at 16 2 (by kernel_rfl)
  rcases Nat.lt_or_ge 1 h with h1 | h1
  · rcases Nat.lt_or_ge g 65538 with h2 | h2
    · exact absurd (by rw [e]; exact Nat.mul_mod_right g h) (key g hg (by omega))
    · rcases Nat.lt_or_ge h 65538 with h3 | h3
      · exact absurd (by rw [e]; exact Nat.mul_mod_left g h) (key h h1 (by omega))
      · have := Nat.mul_le_mul h2 h3
        omega
  · exact h1
theorem crcN_mul {d : Nat} (hd : crcN d 1 = 1) : ∀ q, crcN (d * q) 1 = 1
  | 0 => rfl
  | q + 1 => by rw [Nat.mul_succ, crcN_add, crcN_mul hd q, hd]
theorem crcN_gcd (a b : Nat) : crcN a 1 = 1 → crcN b 1 = 1 → crcN (Nat.gcd a b) 1 = 1 := by
  induction a, b using Nat.gcd.induction with
  | H0 n => intro _ h; rwa [Nat.gcd_zero_left]
  | H1 m n hm ih =>
    intro h1 h2
    rw [Nat.gcd_rec]
    refine ih ?_ h1
    have e : crcN (m * (n / m) + n % m) 1 = 1 := by rw [Nat.div_add_mod]; exact h2
    rw [crcN_add, crcN_mul h1] at e
    exact e
/-- two bits that are less than 2 ^ 31 - 1 places apart are told from each other -/
theorem crcN_order {d : Nat} (h0 : 0 < d) (h1 : d < 2147483647) : crcN d 1 ≠ 1 := by
  intro h
  have hg := crcN_gcd d 2147483647 h crcN_per
  obtain ⟨q, hq⟩ := Nat.gcd_dvd_right d 2147483647
  have hle := Nat.le_of_dvd h0 (Nat.gcd_dvd_left d 2147483647)
  generalize Nat.gcd d 2147483647 = g at *
  rcases Nat.lt_or_ge 1 g with h2 | h2
  · have := prime_M hq h2
    have h3 : q = 0 ∨ q = 1 := by omega
    rcases h3 with rfl | rfl <;> omega
  · have h3 : g = 0 ∨ g = 1 := by omega
    rcases h3 with rfl | rfl
    · omega
    · exact absurd hg (by decide)

-- what was sealed, turned
theorem crcN_hi : ∀ (m : Nat), crcN 8 (256 * m) = m := by
  intro m
  have h2 : ∀ x, crcS (2 * x) = x := by
    intro x; unfold crcS; rw [if_neg (by omega)]; omega
  rw [show 256 * m = 2 * (2 * (2 * (2 * (2 * (2 * (2 * (2 * m))))))) by omega]
  simp only [crcN, h2]
theorem lo_hi (c : Nat) : c = c % 256 ^^^ 256 * (c / 256) := by
  apply Nat.eq_of_testBit_eq
  intro j
  rw [Nat.testBit_xor, show (256 : Nat) = 2 ^ 8 by decide, Nat.testBit_mod_two_pow, Nat.testBit_two_pow_mul, Nat.testBit_div_two_pow]
  by_cases hj : j < 8
  · simp [hj, show ¬ 8 ≤ j by omega]
  · simp [hj, show 8 ≤ j by omega, show j - 8 + 8 = j by omega]
theorem crcN_byte (n c : Nat) : crcN 8 (n ^^^ c) = crcB n (UInt8.ofNat c) ^^^ c / 256 := by
  unfold crcB
  rw [UInt8.toNat_ofNat', show (2 : Nat) ^ 8 = 256 by decide]
  conv => lhs; rw [lo_hi c]
  rw [← Nat.xor_assoc, crcN_xor, crcN_hi]
theorem addC_sumB (r c : Nat) (hc : c < 4294967296) : addC r (sumB c) = crcN 32 (r ^^^ c) := by
  rw [show (32 : Nat) = 8 + (8 + (8 + 8)) by decide, crcN_add, crcN_byte, crcN_add, crcN_byte, crcN_add, crcN_byte, crcN_byte]
  rw [show c / 256 / 256 = c / 65536 by omega, show c / 65536 / 256 = c / 16777216 by omega, show c / 16777216 / 256 = 0 by omega, Nat.xor_zero]
  rfl
theorem xor_not {r : Nat} (h : r < 4294967296) : r ^^^ (4294967295 - r) = 4294967295 := by
  apply Nat.eq_of_testBit_eq
  intro j
  rw [Nat.testBit_xor, show 4294967295 - r = 2 ^ 32 - (r + 1) by omega, Nat.testBit_two_pow_sub_succ (by omega), show (4294967295 : Nat) = 2 ^ 32 - 1 by decide, Nat.testBit_two_pow_sub_one]
  by_cases hj : j < 32
  · simp [hj]
  · have : r.testBit j = false := Nat.testBit_lt_two_pow (Nat.lt_of_lt_of_le (show r < 2 ^ 32 by omega) (Nat.pow_le_pow_right (by omega) (by omega)))
    simp [hj, this]
theorem open_sum {l : List UInt8} (h : openE l = 0) : addC 4294967295 l = crcN 32 4294967295 := by
  unfold openE at h
  split at h
  · omega
  · split at h
    · rename_i h4 hs
      have hr := addC_lt (l.take (l.length - 4)) (n := 4294967295) (by decide)
      rw [← hs]
      unfold sealB
      rw [addC_append, addC_sumB _ _ (sumC_lt _)]
      unfold sumC
      rw [xor_not hr]
    · omega

def xorsC (T : Nat) (ps : List Nat) : Nat := ps.foldr (fun p x => crcN (T - p) 1 ^^^ x) 0
theorem addC_flips (n : Nat) : ∀ (ps : List Nat) (l : List UInt8), (∀ p ∈ ps, p < 8 * l.length) → addC n (flipsB l ps) = addC n l ^^^ xorsC (8 * l.length) ps
  | [], l, _ => by show _ = _ ^^^ 0; rw [Nat.xor_zero]; rfl
  | p :: ps, l, h => by
    show addC n (flipsB (flipB l p) ps) = _
    have hp := h p List.mem_cons_self
    rw [addC_flips n ps (flipB l p) (fun q hq => by rw [flipB_len]; exact h q (List.mem_cons_of_mem _ hq)), addC_flip n hp, flipB_len]
    show _ = addC n l ^^^ (crcN (8 * l.length - p) 1 ^^^ xorsC (8 * l.length) ps)
    rw [Nat.xor_assoc]
theorem par_one (k : Nat) : par 32 (crcN k 1) = true := by rw [par_crcN k (by decide)]; decide
theorem crcN_one_lt (k : Nat) : crcN k 1 < 4294967296 := crcN_lt k (by decide)
theorem crcN_two {T p q : Nat} (hp : p < T) (hq : q < T) (hT : T ≤ 2147483647) (h : crcN (T - p) 1 = crcN (T - q) 1) : p = q := by
  have key : ∀ a b : Nat, a < b → b < T → crcN (T - a) 1 = crcN (T - b) 1 → False := by
    intro a b hab hb h
    rw [show T - a = (b - a) + (T - b) by omega, crcN_add] at h
    exact crcN_order (show 0 < b - a by omega) (by omega) (crcN_inj _ (crcN_one_lt _) (by decide) h)
  rcases Nat.lt_trichotomy p q with h1 | h1 | h1
  · exact (key p q h1 hq h).elim
  · exact h1
  · exact (key q p h1 hp h.symm).elim
/-- up to three bits that are turned in what is sealed are found -/
theorem open_flips {l : List UInt8} {ps : List Nat} (h : openE l = 0) (h3 : ps.length ≤ 3) (hb : ∀ p ∈ ps, p < 8 * l.length) (hM : 8 * l.length ≤ 2147483647) (h' : openE (flipsB l ps) = 0) : flipsB l ps = l := by
  have e := addC_flips 4294967295 ps l hb
  rw [open_sum h', open_sum h] at e
  have hx : xorsC (8 * l.length) ps = 0 := by
    have : crcN 32 4294967295 ^^^ crcN 32 4294967295 = crcN 32 4294967295 ^^^ (crcN 32 4294967295 ^^^ xorsC (8 * l.length) ps) := by rw [← e]
    rw [← Nat.xor_assoc, Nat.xor_self, Nat.zero_xor] at this
    exact this.symm
  match ps, h3, hb, hx with
  | [], _, _, _ => rfl
  | [p], _, hb, hx => exact absurd (congrArg (par 32) hx) (by show ¬ par 32 (_ ^^^ 0) = _; rw [Nat.xor_zero, par_one, par_zero]; decide)
  | [p, q], _, hb, hx =>
    have hx2 : crcN (8 * l.length - p) 1 ^^^ (crcN (8 * l.length - q) 1 ^^^ 0) = 0 := hx
    rw [Nat.xor_zero] at hx2
    have hp := hb p List.mem_cons_self
    have hpq := crcN_two hp (hb q (List.mem_cons_of_mem _ List.mem_cons_self)) hM (xor_zero_eq hx2)
    subst hpq
    exact flipB_flipB hp
  | [p, q, r], _, hb, hx => exact absurd (congrArg (par 32) hx) (by show ¬ par 32 (_ ^^^ (_ ^^^ (_ ^^^ 0))) = _; rw [Nat.xor_zero, par_xor, par_xor, par_one, par_one, par_one, par_zero]; decide)
  | _ :: _ :: _ :: _ :: _, h3, _, _ => exact absurd h3 (by simp)

-- flips in rows of parts
theorem flipB_left {a b : List UInt8} {p : Nat} (h : p < 8 * a.length) : flipB (a ++ b) p = flipB a p ++ b := by
  have h8 : p / 8 < a.length := by omega
  unfold flipB
  rw [List.set_append_left _ _ h8]
  simp [List.getD, List.getElem?_append_left h8]
theorem flipB_right {a b : List UInt8} {p : Nat} (h : 8 * a.length ≤ p) : flipB (a ++ b) p = a ++ flipB b (p - 8 * a.length) := by
  have h8 : a.length ≤ p / 8 := by omega
  unfold flipB
  rw [List.set_append_right _ _ h8, show (p - 8 * a.length) / 8 = p / 8 - a.length by omega, show (p - 8 * a.length) % 8 = p % 8 by omega]
  simp [List.getD, List.getElem?_append_right h8]
/-- the flips that fall into a row's first T bits, and the others -/
theorem flips_split : ∀ (ps : List Nat) (a b : List UInt8), (∀ p ∈ ps, p < 8 * (a.length + b.length)) → ∃ p1 p2 : List Nat, flipsB (a ++ b) ps = flipsB a p1 ++ flipsB b p2 ∧ p1.length ≤ ps.length ∧ p2.length ≤ ps.length ∧ (∀ p ∈ p1, p < 8 * a.length) ∧ (∀ p ∈ p2, p < 8 * b.length)
  | [], a, b, _ => ⟨[], [], rfl, Nat.le_refl _, Nat.le_refl _, fun _ h => by simp at h, fun _ h => by simp at h⟩
  | p :: ps, a, b, h => by
    have hp := h p List.mem_cons_self
    have hr := fun q hq => h q (List.mem_cons_of_mem p hq)
    by_cases h1 : p < 8 * a.length
    · obtain ⟨p1, p2, e, l1, l2, b1, b2⟩ := flips_split ps (flipB a p) b (by rw [flipB_len]; exact hr)
      rw [flipB_len] at b1
      refine ⟨p :: p1, p2, ?_, by simp; omega, by simp; omega, ?_, b2⟩
      · show flipsB (flipB (a ++ b) p) ps = flipsB (flipB a p) p1 ++ _
        rw [flipB_left h1, e]
      · intro q hq
        rcases List.mem_cons.1 hq with rfl | hq
        · exact h1
        · exact b1 q hq
    · obtain ⟨p1, p2, e, l1, l2, b1, b2⟩ := flips_split ps a (flipB b (p - 8 * a.length)) (by rw [flipB_len]; exact hr)
      rw [flipB_len] at b2
      refine ⟨p1, (p - 8 * a.length) :: p2, ?_, by simp; omega, by simp; omega, b1, ?_⟩
      · show flipsB (flipB (a ++ b) p) ps = _ ++ flipsB (flipB b (p - 8 * a.length)) p2
        rw [flipB_right (by omega), e]
      · intro q hq
        rcases List.mem_cons.1 hq with rfl | hq
        · omega
        · exact b2 q hq
end Go.Proofs.Ytnjmekjaingniaa

/-
  Frames with bits turned: the plain law.
-/
namespace Go.Proofs.Ytnjmekjaingniaa
open Go.RowKit
set_option linter.unusedVariables false
set_option linter.unusedSimpArgs false

theorem flipB_mid {pre F post : List UInt8} {p : Nat} (h : p < 8 * F.length) : flipB (pre ++ (F ++ post)) (8 * pre.length + p) = pre ++ (flipB F p ++ post) := by
  rw [flipB_right (by omega), show 8 * pre.length + p - 8 * pre.length = p by omega, flipB_left h]
theorem flips_mid : ∀ (ps : List Nat) (pre F post : List UInt8), (∀ p ∈ ps, p < 8 * F.length) → flipsB (pre ++ (F ++ post)) (ps.map (8 * pre.length + ·)) = pre ++ (flipsB F ps ++ post)
  | [], _, _, _, _ => rfl
  | p :: ps, pre, F, post, h => by
    show flipsB (flipB (pre ++ (F ++ post)) (8 * pre.length + p)) _ = _
    rw [flipB_mid (h p List.mem_cons_self), flips_mid ps pre (flipB F p) post (fun q hq => by rw [flipB_len]; exact h q (List.mem_cons_of_mem _ hq))]
    rfl
theorem headN_head (k : Int) (n : Nat) (hn : n ≤ 60000) (x : List UInt8) : headN (sealB (headB k n) ++ x) = n := by
  have g : ∀ j, j < 4 → (sealB (headB k n) ++ x).getD j 0 = (headB k n).getD j 0 := by
    intro j hj
    unfold sealB
    simp only [List.getD_eq_getElem?_getD]
    rw [List.append_assoc, List.getElem?_append_left (by simpa [headB] using hj)]
  unfold headN
  rw [g 1 (by omega), g 2 (by omega), g 3 (by omega)]
  have e1 : (n / 65536) % 256 * 65536 + (n / 256) % 256 * 256 + n % 256 = n := by omega
  simpa [headB, List.getD] using e1
theorem takeR_bad1 {r : List UInt8} (h : openE (r.take 8) ≠ 0) : (takeR r).1 ≠ 0 := by
  unfold takeR
  split
  · decide
  · exact h
theorem takeR_bad2 {r : List UInt8} (h : openE ((r.drop 8).take (headN r + 4)) ≠ 0) : (takeR r).1 ≠ 0 := by
  unfold takeR
  split
  · decide
  · split
    · assumption
    · split
      · decide
      · split
        · decide
        · exact h
/-- a frame with up to three bits turned is told as it was, or refused -/
theorem frame_flips (k : Int) (l post : List UInt8) (hl : l.length ≤ 60000) {ps : List Nat} (h3 : ps.length ≤ 3) (hb : ∀ p ∈ ps, p < 8 * (frameB k l).length) :
    flipsB (frameB k l) ps = frameB k l ∨ (takeR (flipsB (frameB k l) ps ++ post)).1 ≠ 0 := by
  have hH : (sealB (headB k l.length)).length = 8 := by rw [sealB_len]; rfl
  have hB := sealB_len l
  have hf : frameB k l = sealB (headB k l.length) ++ sealB l := rfl
  rw [frameB_len] at hb
  obtain ⟨p1, p2, e, l1, l2, b1, b2⟩ := flips_split ps (sealB (headB k l.length)) (sealB l) (fun p hp => by have := hb p hp; omega)
  rw [hf, e]
  have fl1 := flipsB_len p1 (sealB (headB k l.length))
  have fl2 := flipsB_len p2 (sealB l)
  by_cases o1 : openE (flipsB (sealB (headB k l.length)) p1) = 0
  · have e1 := open_flips (openE_seal _) (by omega) b1 (by omega) o1
    rw [e1]
    by_cases o2 : openE (flipsB (sealB l) p2) = 0
    · left
      rw [open_flips (openE_seal _) (by omega) b2 (by omega) o2]
    · right
      apply takeR_bad2
      rw [List.append_assoc, headN_head k _ hl]
      have e3 : (sealB (headB k l.length) ++ (flipsB (sealB l) p2 ++ post)).drop 8 = flipsB (sealB l) p2 ++ post := by rw [← hH, List.drop_left]
      have e4 : (flipsB (sealB l) p2 ++ post).take (l.length + 4) = flipsB (sealB l) p2 := by rw [← hB, ← fl2, List.take_left]
      rw [e3, e4]
      exact o2
  · right
    apply takeR_bad1
    have e3 : (flipsB (sealB (headB k l.length)) p1 ++ flipsB (sealB l) p2 ++ post).take 8 = flipsB (sealB (headB k l.length)) p1 := by
      rw [List.append_assoc, show (8 : Nat) = (flipsB (sealB (headB k l.length)) p1).length by rw [fl1, hH], List.take_left]
    rw [e3]
    exact o1
/-- rows of frames, of which one has up to three bits turned -/
theorem split_flips (L : List (List UInt8)) (hL : ∀ x ∈ L, x.length ≤ 60000) {m : Nat} (hm : m < L.length) {ps : List Nat} (h3 : ps.length ≤ 3) (hb : ∀ p ∈ ps, p < 8 * (endAt L (m + 1) - endAt L m)) :
    (flipsB (frsB 0 L) (ps.map (8 * endAt L m + ·)) = frsB 0 L ∧ splitL (flipsB (frsB 0 L) (ps.map (8 * endAt L m + ·))) = (kindsL 0 L.length, L, endAt L L.length, 0)) ∨
    (flipsB (frsB 0 L) (ps.map (8 * endAt L m + ·)) ≠ frsB 0 L ∧ ∃ e, e ≠ 0 ∧ splitL (flipsB (frsB 0 L) (ps.map (8 * endAt L m + ·))) = (kindsL 0 m, L.take m, endAt L m, e)) := by
  have hsplit : frsB 0 L = frsB 0 (L.take m) ++ (frameB (kindOf m : Int) L[m] ++ frsB (m + 1) (L.drop (m + 1))) := by
    conv => lhs; rw [← List.take_append_drop m L]
    rw [frsB_append, List.length_take, Nat.min_eq_left (by omega), Nat.zero_add, List.drop_eq_getElem_cons hm, frsB]
  have hend : (frsB 0 (L.take m)).length = endAt L m := rfl
  have hlen := frameB_len (kindOf m : Int) L[m]
  have hb2 : ∀ p ∈ ps, p < 8 * (frameB (kindOf m : Int) L[m]).length := by
    intro p hp
    have := hb p hp
    rw [endAt_snoc L hm] at this
    omega
  have hmid := flips_mid ps (frsB 0 (L.take m)) (frameB (kindOf m : Int) L[m]) (frsB (m + 1) (L.drop (m + 1))) hb2
  rw [← hsplit, hend] at hmid
  rcases frame_flips (kindOf m : Int) L[m] (frsB (m + 1) (L.drop (m + 1))) (hL _ (List.getElem_mem hm)) h3 hb2 with he | he
  · left
    rw [he, ← hsplit] at hmid
    rw [hmid]
    refine ⟨rfl, ?_⟩
    have hfull : (frsB 0 L).length = endAt L L.length := by unfold endAt; rw [List.take_length]
    have h := split_cut L L.length (endAt L L.length) hL (Nat.le_refl _) (Nat.le_refl _) (fun h => absurd h (by omega)) (Nat.le_refl _)
    rw [← hfull, List.take_length, List.take_length, if_pos rfl] at h
    rw [h, hfull]
  · right
    have hfl := flipsB_len ps (frameB (kindOf m : Int) L[m])
    generalize flipsB (frameB (kindOf m : Int) L[m]) ps = F at *
    generalize frsB (m + 1) (L.drop (m + 1)) = post at *
    rw [hmid]
    have hsp : splitL (frsB 0 (L.take m) ++ (F ++ post)) = (kindsL 0 m, L.take m, endAt L m, (takeR (F ++ post)).1) := by
      have hlm : (L.take m).length = m := by rw [List.length_take]; omega
      have hmm : m ≤ (frsB 0 (L.take m)).length := by
        have : ∀ n, n ≤ L.length → n ≤ endAt L n := by
          intro n
          induction n with
          | zero => intro _; omega
          | succ m ih => intro hm; have := ih (by omega); rw [endAt_snoc L (show m < L.length by omega)]; omega
        exact this m (by omega)
      have hgo := splitG_frs (frsB 0 (L.take m) ++ (F ++ post)) (L.take m) 0 ((frsB 0 (L.take m) ++ (F ++ post)).length + 1 - m) [] (F ++ post) [] [] rfl (fun x hx => hL x (List.mem_of_mem_take hx))
      have hle : (frsB 0 (L.take m) ++ (F ++ post)).length = endAt L m + F.length + post.length := by rw [List.length_append, List.length_append, hend]; omega
      rw [hend] at hmm
      rw [hlm, List.length_nil, Nat.zero_add, List.nil_append, List.nil_append, hend, hle, show endAt L m + F.length + post.length + 1 - m + m = endAt L m + F.length + post.length + 1 by omega] at hgo
      unfold splitL
      rw [hle, hgo]
      obtain ⟨f, hf⟩ : ∃ f, endAt L m + F.length + post.length + 1 - m = f + 1 := ⟨endAt L m + F.length + post.length - m, by omega⟩
      rw [hf]
      unfold splitG
      have hd : (frsB 0 (L.take m) ++ (F ++ post)).drop (endAt L m) = F ++ post := by rw [← hend, List.drop_left]
      rw [if_pos (by rw [hle]; omega), hd, if_neg he]
    refine ⟨fun h => he ?_, _, he, hsp⟩
    rw [h] at hsp
    have hfull : (frsB 0 L).length = endAt L L.length := by unfold endAt; rw [List.take_length]
    have h := split_cut L L.length (endAt L L.length) hL (Nat.le_refl _) (Nat.le_refl _) (fun h => absurd h (by omega)) (Nat.le_refl _)
    rw [← hfull, List.take_length, List.take_length, if_pos rfl, hsp] at h
    exact congrArg (fun x => x.2.2.2) h
end Go.Proofs.Ytnjmekjaingniaa

/-
  Items as plain data, and as cells; an item or a slice of items that came in.
-/
namespace Go.Proofs.Ytnjmekjaingniaa
open Go.ChangeShapes Go.WideShapes Go.ChangeAt Go.RowKit Go.Deep
set_option linter.unusedVariables false

/-- a sample, or a delete of a series -/
structure It where
  s : Int64
  k : Int64
  t : UInt64
  v : UInt64
  x : Int64

def itc (i : It) : List Value := [.int .i64 i.s.toInt, .int .i64 i.k.toInt, .int .u64 (i.t.toNat : Int), .int .u64 (i.v.toNat : Int), .int .i64 i.x.toInt]
def itcs (l : List It) : List Value := l.flatMap itc
theorem itcs_length (l : List It) : (itcs l).length = l.length * 5 := by
  induction l with
  | nil => rfl
  | cons i l ih => simp only [itcs, List.flatMap_cons, List.length_append, List.length_cons] at *; rw [ih]; simp [itc]; omega
theorem itcs_append (a b : List It) : itcs (a ++ b) = itcs a ++ itcs b := by simp [itcs]
theorem itcs_one (l : List It) : ∀ u ∈ itcs l, u.oneCell' = true := by
  intro u hu
  simp only [itcs, List.mem_flatMap] at hu
  obtain ⟨i, _, h⟩ := hu
  simp only [itc, List.mem_cons, List.not_mem_nil, or_false] at h
  rcases h with rfl | rfl | rfl | rfl | rfl <;> rfl
/-- the cells of the item at place k -/
theorem itcs_at (l : List It) {k : Nat} (hk : k < l.length) {j : Nat} (hj : j < 5) : (itcs l)[k * 5 + j]? = (itc l[k])[j]? := by
  induction l generalizing k with
  | nil => simp at hk
  | cons i l ih =>
    cases k with
    | zero =>
      simp only [itcs, List.flatMap_cons, Nat.zero_mul, Nat.zero_add, List.getElem_cons_zero]
      rw [List.getElem?_append_left (by simpa [itc] using hj)]
    | succ k =>
      have hk' : k < l.length := by simpa using hk
      have := ih hk'
      simp only [itcs, List.flatMap_cons, List.getElem_cons_succ] at this ⊢
      rw [List.getElem?_append_right (by simp [itc]; omega), ← this]
      congr 1; simp [itc]; omega

/-- an item's five cells, one by one -/
theorem five_cells {w : World} {B g : Nat} {i : It} (h : Rd w B 5 (some ⟨g, 0, none⟩) 1 (itc i)) :
    w.cell? ⟨g, 0, none⟩ = some (.int .i64 i.s.toInt) ∧ w.cell? ⟨g, 1, none⟩ = some (.int .i64 i.k.toInt) ∧ w.cell? ⟨g, 2, none⟩ = some (.int .u64 (i.t.toNat : Int)) ∧ w.cell? ⟨g, 3, none⟩ = some (.int .u64 (i.v.toNat : Int)) ∧ w.cell? ⟨g, 4, none⟩ = some (.int .i64 i.x.toInt) := by
  obtain ⟨b, o, e, _, hc⟩ := h.2 (by omega)
  injection e with e
  injection e with e1 e2
  subst e1; subst e2
  exact ⟨by simpa using hc 0 _ rfl, by simpa using hc 1 _ rfl, by simpa using hc 2 _ rfl, by simpa using hc 3 _ rfl, by simpa using hc 4 _ rfl⟩
theorem Rd.ilen {w : World} {B n : Nat} {A : Option Addr} {l : List It} (h : Rd w B 5 A n (itcs l)) : n = l.length := by have := h.1; rw [itcs_length] at this; omega
/-- the cells of a slice's item k -/
theorem Rd.item_at {w : World} {B n : Nat} {A : Option Addr} {l : List It} (h : Rd w B 5 A n (itcs l)) {k : Nat} (hk : k < n) :
    ∃ b o i, A = some ⟨b, o, none⟩ ∧ b < B ∧ l[k]? = some i ∧ w.cell? ⟨b, o + k * 5, none⟩ = some (.int .i64 i.s.toInt) ∧ w.cell? ⟨b, o + k * 5 + 1, none⟩ = some (.int .i64 i.k.toInt) ∧ w.cell? ⟨b, o + k * 5 + 2, none⟩ = some (.int .u64 (i.t.toNat : Int)) ∧ w.cell? ⟨b, o + k * 5 + 3, none⟩ = some (.int .u64 (i.v.toNat : Int)) ∧ w.cell? ⟨b, o + k * 5 + 4, none⟩ = some (.int .i64 i.x.toInt) := by
  have hl := h.ilen
  obtain ⟨b, o, e, hb, hc⟩ := h.2 (by omega)
  have hkl : k < l.length := by omega
  have got : ∀ j u, j < 5 → (itc l[k])[j]? = some u → w.cell? ⟨b, o + k * 5 + j, none⟩ = some u := fun j u hj hu => by
    rw [Nat.add_assoc]
    exact hc _ _ ((itcs_at l hkl hj).trans hu)
  exact ⟨b, o, l[k], e, hb, List.getElem?_eq_getElem hkl, got 0 _ (by omega) rfl, got 1 _ (by omega) rfl, got 2 _ (by omega) rfl, got 3 _ (by omega) rfl, got 4 _ (by omega) rfl⟩
theorem Rd.item (w : World) (i : It) (t : TypeId) : Rd (w.alloc (.cells #[.int .i64 i.s.toInt, .int .i64 i.k.toInt, .int .u64 (i.t.toNat : Int), .int .u64 (i.v.toNat : Int), .int .i64 i.x.toInt] t)) (w.heap.size + 1) 5 (some ⟨w.heap.size, 0, none⟩) 1 (itc i) := by
  have := Rd.made (sz := 5) (n := 1) w #[.int .i64 i.s.toInt, .int .i64 i.k.toInt, .int .u64 (i.t.toNat : Int), .int .u64 (i.v.toNat : Int), .int .i64 i.x.toInt] t rfl
  rw [World.size_alloc] at this
  exact this
/-- a boxed item's cells, in whatever grows out of that world -/
theorem item_held (w : World) (i : It) {t : TypeId} {W : World} (hW : w.alloc (.cells #[.int .i64 i.s.toInt, .int .i64 i.k.toInt, .int .u64 (i.t.toNat : Int), .int .u64 (i.v.toNat : Int), .int .i64 i.x.toInt] t) = W) :
    ∀ w1, Up W w1 → w1.cell? ⟨w.heap.size, 0, none⟩ = some (.int .i64 i.s.toInt) ∧ w1.cell? ⟨w.heap.size, 1, none⟩ = some (.int .i64 i.k.toInt) ∧ w1.cell? ⟨w.heap.size, 2, none⟩ = some (.int .u64 (i.t.toNat : Int)) ∧ w1.cell? ⟨w.heap.size, 3, none⟩ = some (.int .u64 (i.v.toNat : Int)) ∧ w1.cell? ⟨w.heap.size, 4, none⟩ = some (.int .i64 i.x.toInt) := fun w1 hu1 => by
  have h5 := Rd.item w i t
  rw [hW] at h5
  exact five_cells ((h5.mono (B' := W.heap.size) (by rw [← hW]; simp)).stay (Nat.le_refl _) hu1)
/-- a literal of items -/
theorem Rd.ilit_at (w : World) (l : List It) (cs : Array Value) (t : TypeId) {g : Nat} (hg : w.heap.size = g) (h : cs.toList = itcs l) : Rd (w.alloc (.cells cs t)) (w.alloc (.cells cs t)).heap.size 5 (some ⟨g, 0, none⟩) l.length (itcs l) := by
  subst hg
  rw [← h]
  exact Rd.made w cs t (by have := congrArg List.length h; rw [itcs_length] at this; simpa using this)
theorem i64_of {n : Int} (h : (Lit.int .i64 n).wf = true) : n = (Int64.ofInt n).toInt := by
  have := bd_i64 h
  rw [Int64.toInt_ofInt_of_le (by simpa using this.1) (by have := this.2; simp; omega)]
theorem u64_of {n : Int} (h : (Lit.int .u64 n).wf = true) : n = ((UInt64.ofNat n.toNat).toNat : Int) := by
  have := bd_u64 h
  simp; omega

section
variable {H : Type} {enc : TypeId × Value → H} {P : Program} {w : World} {base : Nat} {spare : Nat → Bool} {held : Bool}
theorem item_cells {t : TypeId} {f0 f1 f2 f3 f4 : Field} {fuel : Nat} {cs : List Value} {y : DataW H × List MemPlace} (hs : P.underlying t = some (.struct #[f0, f1, f2, f3, f4])) (hone : oneCellFields P #[f0, f1, f2, f3, f4] = true) (hC : P.cellsOf t = 5)
    (u0 : P.underlying f0.type = some (.int .i64)) (u1 : P.underlying f1.type = some (.int .i64)) (u2 : P.underlying f2.type = some (.int .u64)) (u3 : P.underlying f3.type = some (.int .u64)) (u4 : P.underlying f4.type = some (.int .i64))
    (h : DataW.trod enc P w base spare held fuel t cs = some y) : ∃ i : It, cs = itc i := by
  obtain ⟨ys, n, _, _, hlen, hyl, hf⟩ := DataW.trod_struct hs h
  rw [hC] at hlen
  match cs, hlen with
  | [c0, c1, c2, c3, c4], _ =>
    have got : ∀ (j : Nat) (f : Field) (hj : #[f0, f1, f2, f3, f4][j]? = some f), ∃ y, DataW.trod enc P w base spare held n f.type (([c0, c1, c2, c3, c4].drop j).take 1) = some y := by
      intro j f hj
      obtain ⟨ho, hk⟩ := hone_of hone j f hj
      have h1 := hf j f hj
      rw [ho, hk] at h1
      have hjl : j < ys.length := by
        have := (Array.getElem?_eq_some_iff.1 hj).1
        rw [hyl]; exact this
      exact ⟨ys[j], h1.trans (List.getElem?_eq_getElem hjl)⟩
    obtain ⟨y0, g0⟩ := got 0 f0 rfl
    obtain ⟨y1, g1⟩ := got 1 f1 rfl
    obtain ⟨y2, g2⟩ := got 2 f2 rfl
    obtain ⟨y3, g3⟩ := got 3 f3 rfl
    obtain ⟨y4, g4⟩ := got 4 f4 rfl
    obtain ⟨n0, e0, _, w0⟩ := DataW.trod_int u0 g0
    obtain ⟨n1, e1, _, w1⟩ := DataW.trod_int u1 g1
    obtain ⟨n2, e2, _, w2⟩ := DataW.trod_int u2 g2
    obtain ⟨n3, e3, _, w3⟩ := DataW.trod_int u3 g3
    obtain ⟨n4, e4, _, w4⟩ := DataW.trod_int u4 g4
    simp only [List.drop_zero, List.drop_succ_cons, List.take_succ_cons, List.take_zero, List.cons.injEq, and_true] at e0 e1 e2 e3 e4
    subst e0; subst e1; subst e2; subst e3; subst e4
    refine ⟨⟨Int64.ofInt n0, Int64.ofInt n1, UInt64.ofNat n2.toNat, UInt64.ofNat n3.toNat, Int64.ofInt n4⟩, ?_⟩
    simp only [itc]
    rw [← i64_of w0, ← i64_of w1, ← u64_of w2, ← u64_of w3, ← i64_of w4]

theorem item_cells' {fuel : Nat} {cs : List Value} {y : DataW H × List MemPlace} (h : DataW.trod enc Try.prog w base spare held fuel 25 cs = some y) : ∃ i : It, cs = itc i :=
  item_cells Try.underlying25 (by kernel_rfl) (by kernel_rfl) Try.underlying3 Try.underlying3 Try.underlying23 Try.underlying23 Try.underlying2 h
set_option maxRecDepth 100000 in
/-- an item by value -/
theorem is_item {b0 : Nat} {v : Value} {d : DataW H} {p : List MemPlace} (hv : Value.okWide Try.prog w .any b0 25 v) (h : DataW.Trod enc Try.prog w base spare held 25 v d p) :
    ∃ i : It, v = .agg (itc i).toArray := by
  obtain ⟨cs, rfl, hsz⟩ := okWide_struct Try.underlying25 hv
  obtain ⟨fuel, hf⟩ := h
  obtain ⟨i, hi⟩ := item_cells' hf
  refine ⟨i, ?_⟩
  congr 1
  apply Array.toList_inj.1
  simpa [Value.cells] using hi
end
end Go.Proofs.Ytnjmekjaingniaa

/-
  The walks of item's tests: Ok, Less, Same, Wins, Hides; and of the document's.
-/
namespace Go.Proofs.Ytnjmekjaingniaa
open Go.RowKit
set_option linter.unusedVariables false

/-- an item's numbers: may it be? -/
def okZ (s k : Int) (t v : Nat) (x : Int) : Bool := decide (0 ≤ s ∧ s ≤ 255 ∧ 1 ≤ v ∧ v ≤ 281474976710656 ∧ (k = 1 ∧ t = 0 ∧ x = 0 ∨ k = 2 ∧ t ≤ 1099511627776))
def lessZ (s k : Int) (t : Nat) (s' k' : Int) (t' : Nat) : Bool := decide (s < s' ∨ s = s' ∧ (k < k' ∨ k = k' ∧ t < t'))
def winsZ (v : Nat) (x : Int) (v' : Nat) (x' : Int) : Bool := decide (v' < v ∨ v = v' ∧ x' < x)
def hidesZ (s k : Int) (v : Nat) (s' k' : Int) (v' : Nat) : Bool := decide (k = 1 ∧ k' = 2 ∧ s = s' ∧ v' ≤ v)
def okB (i : It) : Bool := okZ i.s.toInt i.k.toInt i.t.toNat i.v.toNat i.x.toInt
def lessB (a b : It) : Bool := lessZ a.s.toInt a.k.toInt a.t.toNat b.s.toInt b.k.toInt b.t.toNat
def winsB (a b : It) : Bool := winsZ a.v.toNat a.x.toInt b.v.toNat b.x.toInt
def hidesB (a b : It) : Bool := hidesZ a.s.toInt a.k.toInt a.v.toNat b.s.toInt b.k.toInt b.v.toNat
def sameB (a b : It) : Bool := !lessB a b && !lessB b a

theorem ret_bool {a b : Bool} (h : a = b) : Ending.returned (.bool a) = .returned (.bool b) := by rw [h]

set_option maxRecDepth 100000 in
set_option maxHeartbeats 1600000 in
theorem ok_core (s k : Int) (t v : Nat) (x : Int) (w : World) :
    Calls Try.prog 80 #[.agg #[.int .i64 s, .int .i64 k, .int .u64 (t : Int), .int .u64 (v : Int), .int .i64 x]] w fun e w' => e = .returned (.bool (okZ s k t v x)) ∧ Up w w' := by
  have hs : okZ s k t v x = decide (0 ≤ s ∧ s ≤ 255 ∧ 1 ≤ v ∧ v ≤ 281474976710656 ∧ (k = 1 ∧ t = 0 ∧ x = 0 ∨ k = 2 ∧ t ≤ 1099511627776)) := rfl
  have HS := Lib.hid hs
  clear hs
  go_enter Try.func80, Try.ntmps80
  go_wp2
  all_goals
    go_ret
    refine ⟨ret_bool ?_, (Up.refl w).alloc _⟩
    rw [HS.out, Bool.eq_iff_iff]
    clear HS
    first | omega | (simp at *; done) | (simp at *; omega)




set_option maxRecDepth 100000 in
set_option maxHeartbeats 1600000 in
theorem rok_core (s k : Int) (t v : Nat) (x : Int) (w : World) :
    Calls Try.prog 60 #[.agg #[.int .i64 s, .int .i64 k, .int .u64 (t : Int), .int .u64 (v : Int), .int .i64 x]] w fun e w' => e = .returned (.bool (okZ s k t v x)) ∧ Up w w' := by
  have hs : okZ s k t v x = decide (0 ≤ s ∧ s ≤ 255 ∧ 1 ≤ v ∧ v ≤ 281474976710656 ∧ (k = 1 ∧ t = 0 ∧ x = 0 ∨ k = 2 ∧ t ≤ 1099511627776)) := rfl
  have HS := Lib.hid hs
  clear hs
  go_enter Try.func60, Try.ntmps60
  go_wp2
  all_goals
    go_ret
    refine ⟨ret_bool ?_, (Up.refl w).alloc _⟩
    rw [HS.out, Bool.eq_iff_iff]
    clear HS
    first | omega | (simp at *; done) | (simp at *; omega)




theorem ok_any (i : It) (w : World) : Calls Try.prog 80 #[.agg #[.int .i64 i.s.toInt, .int .i64 i.k.toInt, .int .u64 (i.t.toNat : Int), .int .u64 (i.v.toNat : Int), .int .i64 i.x.toInt]] w fun e w' => e = .returned (.bool (okB i)) ∧ Up w w' := ok_core _ _ _ _ _ w
theorem rok_any (i : It) (w : World) : Calls Try.prog 60 #[.agg #[.int .i64 i.s.toInt, .int .i64 i.k.toInt, .int .u64 (i.t.toNat : Int), .int .u64 (i.v.toNat : Int), .int .i64 i.x.toInt]] w fun e w' => e = .returned (.bool (okB i)) ∧ Up w w' := rok_core _ _ _ _ _ w
end Go.Proofs.Ytnjmekjaingniaa

/-
  The walks of item: Key, All.
-/
namespace Go.Proofs.Ytnjmekjaingniaa
open Go.RowKit
set_option linter.unusedVariables false

def keyB (i : It) : List UInt8 := byteOf i.s.toInt :: byteOf i.k.toInt :: eightB i.t.toNat


set_option maxRecDepth 100000 in
set_option maxHeartbeats 800000 in
theorem all1_any (i : It) (w : World) :
    Calls Try.prog 79 #[.agg #[.int .i64 i.s.toInt, .int .i64 i.k.toInt, .int .u64 (i.t.toNat : Int), .int .u64 (i.v.toNat : Int), .int .i64 i.x.toInt]] w fun e w' => e = .returned (.bool (!okB i)) ∧ Up w w' := by
  go_enter Try.func79, Try.ntmps79
  go_wp2_with fail
  refine (ok_any i _).mono ?_
  rintro e w1 ⟨rfl, hu⟩
  go_wp2_with fail
  go_ret
  exact ⟨rfl, ((Up.refl w).alloc _).trans hu⟩
set_option maxRecDepth 100000 in
set_option maxHeartbeats 800000 in
theorem indexf_any (A : Option Addr) (n c : Nat) (l : List It) (w : World) (hr : Rd w w.heap.size 5 A n (itcs l)) (hn : n ≤ 9223372036854775807) :
    Calls Try.prog 87 #[.slice A n c, .func (.func 79) #[] #[]] w fun e w' => ∃ z : Int, e = .returned (.int .i64 z) ∧ Hid (l.all okB = decide (z < 0)) ∧ Up w w' := by
  have HL := Lib.hid hr.ilen
  go_enter Try.func87, Try.ntmps87
  go_wp2_with fail
  go_loopw [8] (fun i wr => ∃ k : Nat, i = .int .i64 (k : Int) ∧ k ≤ n ∧ Hid ((l.take k).all okB = true) ∧ Up w wr) (fun i _ => n - (intOf i).toNat)
  case atStart => exact ⟨0, rfl, by omega, rfl, Up.refl _⟩
  case round =>
    obtain ⟨k, rfl, hk, hall, hu⟩ := hrel
    by_cases hlt : k < n
    · obtain ⟨b, o, i, rfl, hb, hik, c0, c1, c2, c3, c4⟩ := (hr.stay (Nat.le_refl _) hu).item_at hlt
      have HI := Lib.hid hik
      clear hik
      go_wp2_with fail
      refine (all1_any i wr).mono ?_
      rintro e w2 ⟨rfl, hu2⟩
      have hkl : k < l.length := by have := HL.out; omega
      have htk : l.take (k + 1) = l.take k ++ [i] := by
        rw [List.take_succ_eq_append_getElem hkl]
        have := HI.out
        rw [List.getElem?_eq_getElem hkl] at this
        injection this with this
        rw [this]
      have HT := Lib.hid htk
      clear htk c0 c1 c2 c3 c4
      cases hok : okB i
      · have hf : Hid (l.all okB = decide ((k : Int) < 0)) := by
          show _ = _
          have : okB l[k] = false := by
            have h := HI.out
            rw [List.getElem?_eq_getElem hkl] at h
            injection h with h
            rw [h]; exact hok
          have h2 : l.all okB = false := by
            rw [List.all_eq_false]
            exact ⟨l[k], List.getElem_mem _, by rw [this]; simp⟩
          rw [h2]; simp
        clear hok
        go_wp2_with fail
        go_ret
        exact ⟨k, rfl, hf, hu.trans hu2⟩
      · have HO := Lib.hid hok
        clear hok
        go_wp2_with fail
        go_roundw
        case rel =>
          refine ⟨k + 1, by go_num, by omega, ?_, hu.trans hu2⟩
          show _ = _
          rw [HT.out, List.all_append, hall.out]
          simp [HO.out]
        case measure => simp [intOf]; omega
    · go_wp2_with fail
      go_ret
      refine ⟨-1, rfl, ?_, hu⟩
      show _ = _
      have hk' : k = l.length := by have := HL.out; omega
      have h := hall.out
      rw [hk', List.take_of_length_le (Nat.le_refl _)] at h
      rw [h]; rfl
set_option maxRecDepth 100000 in
theorem all_any (A : Option Addr) (n c : Nat) (l : List It) (w : World) (hr : Rd w w.heap.size 5 A n (itcs l)) (hn : n ≤ 9223372036854775807) :
    Calls Try.prog 55 #[.slice A n c] w fun e w' => e = .returned (.bool (l.all okB)) ∧ Up w w' := by
  have h1 := indexf_any A n c l w hr hn
  have H1 := Lib.hid h1
  clear h1
  generalize l.all okB = r at *
  have h2 : Calls Try.prog 78 #[.slice A n c, .func (.func 79) #[] #[]] w fun e w' => e = .returned (.bool (!r)) ∧ Up w w' := by
    go_enter Try.func78, Try.ntmps78
    go_wp2_with fail
    refine H1.out.mono ?_
    rintro e w1 ⟨z, rfl, hz, hu⟩
    go_wp2_with fail
    go_ret
    refine ⟨ret_bool ?_, hu⟩
    rw [hz.out]
    by_cases h : z < 0
    · simp [h]
    · simp [h]; omega
  have H2 := Lib.hid h2
  clear h2 H1
  go_enter Try.func55, Try.ntmps55
  go_wp2_with fail
  refine H2.out.mono ?_
  rintro e w1 ⟨rfl, hu⟩
  go_wp2_with fail
  go_ret
  exact ⟨ret_bool (by simp), hu⟩
end Go.Proofs.Ytnjmekjaingniaa

/-
  The walk of item.Bytes.
-/
namespace Go.Proofs.Ytnjmekjaingniaa
open Go.RowKit
set_option linter.unusedVariables false

def itB (i : It) : List UInt8 := byteOf i.s.toInt :: byteOf i.k.toInt :: (numB i.t.toNat ++ (numB i.v.toNat ++ numB (signN i.x.toInt)))
def itemsB (l : List It) : List UInt8 := numB l.length ++ l.flatMap itB
def bytesE (l : List It) : Nat := if 2000 < l.length then 2 else if l.all okB then 0 else 1
/-- what Bytes hands back -/
def bytesL (bs : List UInt8) (l : List It) : List UInt8 := if bytesE l = 0 then bs ++ itemsB l else []
theorem bytesL_no {bs : List UInt8} {l : List It} (h : bytesE l ≠ 0) : bytesL bs l = [] := by unfold bytesL; rw [if_neg h]
theorem bytesL_yes {bs : List UInt8} {l : List It} (h : bytesE l = 0) : bytesL bs l = bs ++ itemsB l := by unfold bytesL; rw [if_pos h]
theorem i64_bd (i : Int64) : -9223372036854775808 ≤ i.toInt ∧ i.toInt ≤ 9223372036854775807 := ⟨by have := i.le_toInt; simpa using this, by have := i.toInt_lt; omega⟩
theorem itB_len (i : It) : (itB i).length ≤ 32 := by
  have h1 := numB_ten i.t.toNat_lt
  have h2 := numB_ten i.v.toNat_lt
  have h3 := numB_ten (signN_lt i.x.toInt (i64_bd i.x).1 (i64_bd i.x).2)
  simp only [itB, List.length_cons, List.length_append]; omega

set_option maxRecDepth 100000 in
set_option maxHeartbeats 3200000 in
theorem bytes_any (A : Option Addr) (n c : Nat) (bs : List UInt8) (Q : Option Addr) (m d : Nat) (l : List It) (w : World) (hr : Rd w w.heap.size 1 A n (bvs bs)) (hq : Rd w w.heap.size 5 Q m (itcs l)) (hn : n ≤ 1099511627000) (hm : m ≤ 9223372036854775807) :
    Calls Try.prog 32 #[.slice A n c, .slice Q m d] w fun e w' => ∃ A' n' c', e = .returned (.tuple #[.slice A' n' c', .int .i64 (bytesE l : Int)]) ∧ OwnB w' w.heap.size A' n' c' (bytesL bs l) ∧ Up w w' := by
  have HN := Lib.hid hr.blen
  have HM := Lib.hid hq.ilen
  have nil0 : ∀ w0, OwnB w0 w.heap.size none 0 0 [] := fun w0 => World.ownsRow_nil _ _ _ _
  have NIL := Lib.hid nil0
  clear nil0
  by_cases hbig : 2000 < m
  · have hE : Hid (bytesE l = 2) := by show _ = _; unfold bytesE; rw [if_pos (by rw [← HM.out]; exact hbig)]
    go_enter Try.func32, Try.ntmps32
    go_wp2_with fail
    go_ret2
    rw [hE.out, bytesL_no (by rw [hE.out]; omega)]
    exact ⟨none, 0, 0, rfl, NIL.out _, Up.refl _⟩
  cases hall : l.all okB
  · have hE : Hid (bytesE l = 1) := by show _ = _; unfold bytesE; rw [if_neg (by rw [← HM.out]; exact hbig), hall]; rfl
    have HA := Lib.hid hall
    clear hall
    go_enter Try.func32, Try.ntmps32
    go_wp2_with fail
    refine (all_any Q m d l w hq hm).mono ?_
    rintro e w1 ⟨rfl, hu⟩
    rw [HA.out]
    go_wp2_with fail
    go_ret2
    rw [hE.out, bytesL_no (by rw [hE.out]; omega)]
    exact ⟨none, 0, 0, rfl, NIL.out _, hu⟩
  · have hE : Hid (bytesE l = 0) := by show _ = _; unfold bytesE; rw [if_neg (by rw [← HM.out]; exact hbig), hall]; rfl
    have HA := Lib.hid hall
    clear hall
    go_enter Try.func32, Try.ntmps32
    go_wp2_with fail
    refine (all_any Q m d l w hq hm).mono ?_
    rintro e w1 ⟨rfl, hu1⟩
    rw [HA.out]
    go_wp2_with fail
    refine (put_any A n c bs m w1 (hr.up hu1) (by omega) (by omega)).mono ?_
    rintro e w2 ⟨A2, n2, c2, rfl, ho2, hu2⟩
    have hu12 := hu1.trans hu2
    go_wp2_with fail
    go_loopw [7, 25] (fun v i wr => ∃ (k : Nat) (R : Option Addr) (rn rc : Nat), i = .int .i64 (k : Int) ∧ v = .slice R rn rc ∧ k ≤ m ∧ rn ≤ 32 * k ∧ OwnB wr w2.heap.size R rn rc ((l.take k).flatMap itB) ∧ Up w2 wr) (fun _ i _ => m - (intOf i).toNat)
    case atStart => exact ⟨0, none, 0, 0, rfl, rfl, by omega, by omega, World.ownsRow_nil _ _ _ _, Up.refl _⟩
    case round =>
      obtain ⟨k, R, rn, rc, rfl, rfl, hk, hrn, hown, hu⟩ := hrel
      by_cases hlt : k < m
      · obtain ⟨b, o, i, rfl, hb, hik, x0, x1, x2, x3, x4⟩ := (hq.stay (Nat.le_refl _) (hu12.trans hu)).item_at hlt
        have HI := Lib.hid hik
        clear hik
        have hbi := i64_bd i.x
        obtain ⟨hbi1, hbi2⟩ := hbi
        go_wp2_with (at_builtin; refine wpList_append_rd _ bytesT (news := bvs [byteOf i.s.toInt, byteOf i.k.toInt]) (World.ownsRow.alloc (World.ownsRow.alloc hown _) _) (Rd.lit_at _ _ _ _ (by simp) (by simp [bvs, bv_byteOf])) (bvs_one _) (by simp; omega) (by simp; omega) (by simp; have := hu.size; omega) rfl rfl rfl rfl ?_; intro v3 w3 hown3 hg3 hat3; obtain ⟨R3, rc3, rfl⟩ := own_form hown3)
        have hx3 := ((Rd.item wr i 25).alloc (by simp) (.cells #[.int .u8 (i.s.toInt % 256), .int .u8 (i.k.toInt % 256)] 5)).far (by omega) hg3 (by simp; omega) (fun e => by have := (hown.lt _ e.symm).2; omega)
        obtain ⟨g0, g1, g2, g3, g4⟩ := five_cells hx3
        have hu3 : Up w2 w3 := (((hu.alloc _).alloc _).grown hg3 (fun g hg => (hown.lt g hg).1))
        clear hx3 g0 g1 x0 x1 x2 x3 x4
        go_wp2_with fail
        go_region_held3 (fun W => W.cell? ⟨wr.heap.size, 2, none⟩ = some (.int .u64 (i.t.toNat : Int)) ∧ W.cell? ⟨wr.heap.size, 3, none⟩ = some (.int .u64 (i.v.toNat : Int)) ∧ W.cell? ⟨wr.heap.size, 4, none⟩ = some (.int .i64 i.x.toInt)) (first | exact ⟨g2, g3, g4⟩ | go_keep)
          (first | (go_at_call 57; refine (sign_any _ _ (by omega) (by omega)).mono ?_; rintro e w' ⟨rfl, rfl⟩))
        go_wp2_with fail
        have hlit : Rd (w3.drew.alloc (.cells #[.int .u64 (i.t.toNat : Int), .int .u64 (i.v.toNat : Int), .int .u64 (signN i.x.toInt : Int)] 23)) (w3.heap.size + 1) 1 (some ⟨w3.heap.size, 0, none⟩) 3 (nvs [i.t.toNat, i.v.toNat, signN i.x.toInt]) := by
          have := Rd.made (sz := 1) (n := 3) w3.drew #[.int .u64 (i.t.toNat : Int), .int .u64 (i.v.toNat : Int), .int .u64 (signN i.x.toInt : Int)] 23 rfl
          rw [World.size_alloc] at this
          exact this
        have hns : ∀ j, j < 3 → ([i.t.toNat, i.v.toNat, signN i.x.toInt].getD j 0 : Int) ≤ 18446744073709551615 := by
          intro j hj
          have h1 := i.t.toNat_lt
          have h2 := i.v.toNat_lt
          have h3 := signN_lt i.x.toInt (by omega) (by omega)
          match j, hj with
          | 0, _ => simp; omega
          | 1, _ => simp; omega
          | 2, _ => simp; omega
        have hitB : itB i = [byteOf i.s.toInt, byteOf i.k.toInt] ++ [i.t.toNat, i.v.toNat, signN i.x.toInt].flatMap numB := by simp [itB]
        have hr3n : rn + [byteOf i.s.toInt, byteOf i.k.toInt].length = rn + 2 := rfl
        rw [hr3n, ← bvs_append] at hown3
        have HNS := Lib.hid hns
        have HIT := Lib.hid hitB
        clear hns hitB hr3n g2 g3 g4
        obtain ⟨ns, hns0⟩ : ∃ ns, [i.t.toNat, i.v.toNat, signN i.x.toInt] = ns := ⟨_, rfl⟩
        have hns3 : ns.length = 3 := by rw [← hns0]; rfl
        rw [hns0] at hlit HNS HIT
        have hne3 : R3 ≠ some ⟨w3.heap.size, 0, none⟩ := by
          intro e; subst e
          have := (hown3.lt w3.heap.size rfl).2; omega
        clear hns0
        go_loopw [7, 47] (fun v j ws => ∃ (q : Nat) (S : Option Addr) (sn sc : Nat), j = .int .i64 (q : Int) ∧ v = .slice S sn sc ∧ q ≤ 3 ∧ sn ≤ rn + 2 + 10 * q ∧ OwnB ws w2.heap.size S sn sc ((l.take k).flatMap itB ++ [byteOf i.s.toInt, byteOf i.k.toInt] ++ (ns.take q).flatMap numB) ∧ Hid (S ≠ some ⟨w3.heap.size, 0, none⟩) ∧ Rd ws (w3.heap.size + 1) 1 (some ⟨w3.heap.size, 0, none⟩) 3 (nvs ns) ∧ Up w2 ws ∧ w3.heap.size < ws.heap.size) (fun _ j _ => 3 - (intOf j).toNat)
        case atStart => exact ⟨0, R3, rn + 2, rc3, rfl, rfl, by omega, by omega, by rw [List.take_zero, List.flatMap_nil, List.append_nil]; exact World.ownsRow.alloc hown3 _, hne3, hlit, (hu3.drew).alloc _, by simp⟩
        case round =>
          obtain ⟨q, S, sn, sc, rfl, rfl, hq3, hsn, hows, hne, hlt3, hus, hsz⟩ := hrel
          clear hlit hown3 hne3 hu3 hg3 hat3
          by_cases hq' : q < 3
          · obtain ⟨b5, o5, e5, hb5, hc5⟩ := hlt3.nat hq'
            injection e5 with e5
            injection e5 with e6 e7
            subst e6; subst e7
            rw [Nat.zero_add] at hc5
            have hv := HNS.out q hq'
            have htk : ns.take (q + 1) = ns.take q ++ [ns.getD q 0] := by
              rw [List.take_succ_eq_append_getElem (by omega)]; simp [List.getD, hns3, hq']
            generalize ns.getD q 0 = x at hc5 hv htk
            have HTK := Lib.hid htk
            clear htk
            have hxl := numB_ten (n := x) (by omega)
            go_wp2_with fail
            refine (put_any none 0 0 [] x _ Rd.empty (by omega) hv).mono ?_
            rintro e w5 ⟨A5, n5, c5, rfl, ho5, hu5⟩
            rw [List.nil_append] at ho5
            have hn5 := ho5.len
            have hn5b : n5 ≤ 10 := by omega
            have HN5 := Lib.hid hn5
            clear hn5 hxl
            have hk32 : sn ≤ 64100 := by omega
            go_wp2_with (at_builtin; refine wpList_append_rd _ bytesT (hows.up hu5) ho5.rd (bvs_one _) (by omega) (by omega) (by have := hus.size; have := hu5.size; omega) rfl rfl rfl rfl ?_; intro v6 w6 hown6 hg6 hat6; obtain ⟨S6, sc6, rfl⟩ := own_form hown6)
            have hlt5 : w3.heap.size < w5.heap.size := Nat.lt_of_lt_of_le hsz hu5.size
            have hnb : ∀ g, some g = (Value.slice S sn sc).ownBlock → g < w5.heap.size ∧ g ≠ w3.heap.size := by
              intro g hg
              have h1 := ((hows.up hu5).lt g hg.symm).2
              refine ⟨h1, fun e => hne.out ?_⟩
              subst e
              obtain ⟨g', hS, _⟩ : ∃ g', S = some ⟨g', 0, none⟩ ∧ True := by
                rcases hows.2 with ⟨hv', _⟩ | ⟨g', _, _, hv', _⟩
                · injection hv' with hS _ _; subst hS; simp [Value.ownBlock] at hg
                · injection hv' with hS _ _; exact ⟨g', hS, trivial⟩
              subst hS
              simp [Value.ownBlock] at hg
              rw [hg]
            go_roundw
            case rel =>
              refine ⟨q + 1, S6, sn + n5, sc6, by go_num, rfl, by omega, by omega, ?_, ?_, ?_, (hus.trans hu5).grown hg6 (fun g hg => ((hows.up hu5).lt g hg).1), Nat.lt_of_lt_of_le hlt5 hg6.size⟩
              · show World.ownsRow _ _ _ _ _ _ _
                rw [HTK.out, List.flatMap_append, ← List.append_assoc, bvs_append]
                simpa using hown6
              · intro e
                subst e
                rcases hat6 with h | h
                · exact (hnb w3.heap.size (by simpa [Value.ownBlock] using h)).2 rfl
                · simp [Value.ownBlock] at h; omega
              · exact (hlt3.stay hsz hu5).far (by omega) hg6 hlt5 (fun e => (hnb _ e).2 rfl)
            case measure => simp [intOf]; omega
          · have hq3' : q = 3 := by omega
            subst hq3'
            go_wp2_with fail
            go_roundw
            case rel =>
              refine ⟨k + 1, S, sn, sc, by go_num, rfl, by omega, by omega, ?_, hus⟩
              have hkl : k < l.length := by have := HM.out; omega
              have hti : l.take (k + 1) = l.take k ++ [i] := by
                rw [List.take_succ_eq_append_getElem hkl]
                have := HI.out
                rw [List.getElem?_eq_getElem hkl] at this
                injection this with this
                rw [this]
              rw [show ns.take 3 = ns from List.take_of_length_le (by omega)] at hows
              rw [hti, List.flatMap_append, List.flatMap_singleton, HIT.out, ← List.append_assoc]
              exact hows
            case measure => simp [intOf]; omega
      · have hkm : k = m := by omega
        subst hkm
        have hrow : (l.take k).flatMap itB = l.flatMap itB := by rw [List.take_of_length_le (by have := HM.out; omega)]
        rw [hrow] at hown
        have hn2 : n2 ≤ n + 10 := by have h1 := ho2.len; have h2 := numB_ten (n := k) (by omega); have h3 := HN.out; rw [List.length_append] at h1; omega
        have ho2' : OwnB wr w.heap.size A2 n2 c2 (bs ++ numB k) := own_base (ho2.up hu) hu1.size
        clear hrow ho2
        go_wp2_with (at_builtin; refine wpList_append_rd _ bytesT ho2' hown.rd (bvs_one _) (by omega) (by omega) (hu12.trans hu).size rfl rfl rfl rfl ?_; intro v6 w6 hown6 hg6 hat6; obtain ⟨S6, sc6, rfl⟩ := own_form hown6)
        go_ret2
        rw [hE.out, bytesL_yes hE.out]
        refine ⟨S6, _, sc6, rfl, ?_, (hu12.trans hu).grown hg6 (fun g hg => (ho2'.lt g hg).1)⟩
        show World.ownsRow _ _ _ _ _ _ _
        rw [itemsB, ← HM.out, ← List.append_assoc, bvs_append]
        exact hown6
end Go.Proofs.Ytnjmekjaingniaa

/-
  The walk of item.one: the item that bytes begin with.
-/
namespace Go.Proofs.Ytnjmekjaingniaa
open Go.RowKit
set_option linter.unusedVariables false

/-- k numbers, one behind the other -/
def takesL : Nat → List Nat → List UInt8 → Nat × List Nat × List UInt8
  | 0, acc, l => (0, acc, l)
  | k + 1, acc, l => if (takeL l).2.2 = 0 then takesL k (acc ++ [(takeL l).1]) (l.drop (takeL l).2.1) else ((takeL l).2.2, [], [])
def mkIt (s k t v x : Nat) : It := ⟨Int64.ofInt s, Int64.ofInt k, UInt64.ofNat t, UInt64.ofNat v, Int64.ofInt (unsignZ x)⟩
def noIt : It := ⟨0, 0, 0, 0, 0⟩
/-- the error, the item, the bytes behind it -/
def oneL (l : List UInt8) : Nat × It × List UInt8 :=
  if l.length < 2 then (4, noIt, [])
  else if (takesL 3 [] (l.drop 2)).1 = 0 then (0, mkIt (l.getD 0 0).toNat (l.getD 1 0).toNat ((takesL 3 [] (l.drop 2)).2.1.getD 0 0) ((takesL 3 [] (l.drop 2)).2.1.getD 1 0) ((takesL 3 [] (l.drop 2)).2.1.getD 2 0), (takesL 3 [] (l.drop 2)).2.2)
  else ((takesL 3 [] (l.drop 2)).1, noIt, [])
theorem mkIt_c (s k t v x : Nat) (hs : s < 256) (hk : k < 256) (ht : t < 18446744073709551616) (hv : v < 18446744073709551616) (hx : x < 18446744073709551616) :
    itc (mkIt s k t v x) = [.int .i64 (s : Int), .int .i64 (k : Int), .int .u64 (t : Int), .int .u64 (v : Int), .int .i64 (unsignZ x)] := by
  have hb : -9223372036854775808 ≤ unsignZ x ∧ unsignZ x ≤ 9223372036854775807 := by unfold unsignZ; split <;> omega
  have e1 : ∀ n : Nat, n < 256 → (Int64.ofInt (n : Int)).toInt = (n : Int) := fun n hn => by rw [Int64.toInt_ofInt_of_le (by omega) (by simp; omega)]
  have ex : (Int64.ofInt (unsignZ x)).toInt = unsignZ x := by rw [Int64.toInt_ofInt_of_le (by simpa using hb.1) (by have := hb.2; simp; omega)]
  have e2 : ∀ n : Nat, n < 18446744073709551616 → ((UInt64.ofNat n).toNat : Int) = (n : Int) := fun n hn => by simp; omega
  simp only [itc, mkIt, e1 s hs, e1 k hk, e2 t ht, e2 v hv, ex]
theorem noIt_c : itc noIt = [.int .i64 0, .int .i64 0, .int .u64 0, .int .u64 0, .int .i64 0] := by kernel_rfl

set_option maxRecDepth 100000 in
set_option maxHeartbeats 3200000 in
theorem one_any (A : Option Addr) (n c : Nat) (l : List UInt8) (w : World) (B : Nat) (hB : B ≤ w.heap.size) (hr : Rd w B 1 A n (bvs l)) (hn : n ≤ 9223372036854775807) (hc : n ≤ c) :
    Calls Try.prog 65 #[.slice A n c] w fun e w' => ∃ A' n' c', e = .returned (.tuple #[.agg (itc (oneL l).2.1).toArray, .slice A' n' c', .int .i64 ((oneL l).1 : Int)]) ∧ Rd w' B 1 A' n' (bvs (oneL l).2.2) ∧ n' ≤ c' ∧ n' ≤ n ∧ Up w w' := by
  have HL := Lib.hid hr.blen
  have CUT := cut_from_b
  by_cases h2 : n < 2
  · have hv : oneL l = (4, noIt, []) := by unfold oneL; rw [if_pos (by rw [← HL.out]; exact h2)]
    have HV := Lib.hid hv
    clear hv
    go_enter Try.func65, Try.ntmps65
    go_wp2_with fail
    refine bodyPost_ret (v := .tuple #[.agg #[.int .i64 0, .int .i64 0, .int .u64 0, .int .u64 0, .int .i64 0], .slice none 0 0, .int .i64 4]) (by simp [results, Try.results65, go_sem]) rfl ?_
    rw [HV.out, noIt_c]
    exact ⟨none, 0, 0, rfl, Rd.empty, by omega, by omega, (Up.refl w).alloc _⟩
  · obtain ⟨b, o, rfl, hb, hc0⟩ := hr.byte (k := 0) (by omega)
    obtain ⟨b', o', e', _, hc1⟩ := hr.byte (k := 1) (by omega)
    injection e' with e'
    injection e' with e1 e2
    subst e1; subst e2
    have hbw : b < w.heap.size := by omega
    have hd := hr.bfrom (k := 2) (cap := c) (by omega) hc
    rw [Nat.add_zero] at hc0
    have hv : oneL l = if (takesL 3 [] (l.drop 2)).1 = 0 then (0, mkIt (l.getD 0 0).toNat (l.getD 1 0).toNat ((takesL 3 [] (l.drop 2)).2.1.getD 0 0) ((takesL 3 [] (l.drop 2)).2.1.getD 1 0) ((takesL 3 [] (l.drop 2)).2.1.getD 2 0), (takesL 3 [] (l.drop 2)).2.2)
        else ((takesL 3 [] (l.drop 2)).1, noIt, []) := by
      conv => lhs; unfold oneL
      rw [if_neg (by rw [← HL.out]; exact h2)]
    have HV := Lib.hid hv
    clear hv
    have hb0 := (l.getD 0 0).toNat_lt
    have hb1 := (l.getD 1 0).toNat_lt
    generalize (l.getD 0 0).toNat = b0 at *
    generalize (l.getD 1 0).toNat = b1 at *
    have hl2 : (l.drop 2).length = n - 2 := by rw [List.length_drop, HL.out]
    have HL2 := Lib.hid hl2
    clear hl2
    generalize l.drop 2 = l2 at *
    have w0 : wrap64 (b0 : Int) = b0 := by unfold wrap64; omega
    have w1 : wrap64 (b1 : Int) = b1 := by unfold wrap64; omega
    have g0 : (0 : Int) < n := by omega
    have g1 : (1 : Int) < n := by omega
    have g2 : 0 < n := by omega
    have g3 : 1 < n := by omega
    have g4 : (2 : Int) ≤ n := by omega
    clear hr
    have SD : ∀ (W : World) (q : Nat) (a : Addr) (v : Value), (W.drewN q).setCell a v = (W.setCell a v).drewN q := fun _ _ _ _ => rfl
    go_enter Try.func65, Try.ntmps65
    go_wp2_with fail
    go_region
    clear w0 w1
    go_wp2_with fail
    go_loopw [0, 26] (fun q i wr => ∃ (k : Nat) (A' : Option Addr) (n' c' : Nat) (r : List UInt8) (acc : List Nat) (x y z qd : Nat), i = .int .i64 (k : Int) ∧ q = .slice A' n' c' ∧ k ≤ 3 ∧ Rd w B 1 A' n' (bvs r) ∧ n' ≤ c' ∧ n' ≤ n ∧
        wr = ((w.alloc (.cells #[.int .i64 (b0 : Int), .int .i64 (b1 : Int), .int .u64 0, .int .u64 0, .int .i64 0] 25)).alloc (.cells #[.int .u64 (x : Int), .int .u64 (y : Int), .int .u64 (z : Int)] 125)).drewN qd ∧ Hid (takesL (3 - k) acc r = takesL 3 [] l2) ∧ Hid (acc.length = k ∧ acc.getD 0 0 = x ∧ acc.getD 1 0 = y ∧ acc.getD 2 0 = z) ∧ (x : Int) ≤ 18446744073709551615 ∧ (y : Int) ≤ 18446744073709551615 ∧ (z : Int) ≤ 18446744073709551615) (fun _ i _ => 3 - (intOf i).toNat)
    case atStart => exact ⟨0, _, _, _, l2, [], 0, 0, 0, 1, rfl, rfl, by omega, hd, by omega, by omega, rfl, rfl, ⟨rfl, rfl, rfl, rfl⟩, by omega, by omega, by omega⟩
    case round =>
      obtain ⟨k, A', n', c', r, acc, x, y, z, qd, rfl, rfl, hk, hrr, hnc, hnn, rfl, HT, HA, hx, hy, hz⟩ := hrel
      clear hd
      have hup : Up w (((w.alloc (.cells #[.int .i64 (b0 : Int), .int .i64 (b1 : Int), .int .u64 0, .int .u64 0, .int .i64 0] 25)).alloc (.cells #[.int .u64 (x : Int), .int .u64 (y : Int), .int .u64 (z : Int)] 125)).drewN qd) := (((Up.refl w).alloc _).alloc _).drewN _
      by_cases hlt : k < 3
      · go_wp2_with fail
        refine (take_any A' n' c' r _ ((hrr.mono hB).up hup) (by omega)).mono ?_
        rintro e w1 ⟨rfl, rfl⟩
        by_cases he : (takeL r).2.2 = 0
        · have hok := takeL_ok he
          have hst : takesL (3 - k) acc r = takesL (3 - (k + 1)) (acc ++ [(takeL r).1]) (r.drop (takeL r).2.1) := by
            rw [show 3 - k = (3 - (k + 1)) + 1 by omega]
            conv => lhs; unfold takesL
            rw [if_pos he]
          have hrl := hrr.blen
          have hd2 := hrr.bfrom (k := (takeL r).2.1) (cap := c') (by omega) hnc
          rw [he]
          have HST := Lib.hid (HT.out.symm.trans hst)
          clear hst he
          generalize (takeL r).1 = tn at *
          generalize (takeL r).2.1 = ts at *
          generalize r.drop ts = r2 at *
          obtain ⟨h1, h2', h3, h4⟩ := hok
          have t1 : (0 : Int) ≤ ts := by omega
          have t2 : (ts : Int) ≤ n' := by omega
          have t3 : (tn : Int) ≤ 18446744073709551615 := by omega
          clear h1 h2' h3 h4 hrl HT
          have hk3 : k = 0 ∨ k = 1 ∨ k = 2 := by omega
          rcases hk3 with rfl | rfl | rfl
          · go_wp2_with fail
            go_region
            go_wp2_with fail
            go_roundw
            case rel =>
              refine ⟨1, _, _, _, r2, acc ++ [tn], tn, y, z, _, rfl, rfl, by omega, hd2, by omega, by omega, rfl, HST.out.symm, ?_, by omega, by omega, by omega⟩
              obtain ⟨q1, q2, q3, q4⟩ := HA.out
              match acc, q1 with
              | [], _ => exact ⟨by simp, by first | exact q2 | simp, by first | exact q3 | simp, by first | exact q4 | simp⟩
            case measure => simp [intOf]
          · go_wp2_with fail
            go_region
            go_wp2_with fail
            go_roundw
            case rel =>
              refine ⟨2, _, _, _, r2, acc ++ [tn], x, tn, z, _, rfl, rfl, by omega, hd2, by omega, by omega, rfl, HST.out.symm, ?_, by omega, by omega, by omega⟩
              obtain ⟨q1, q2, q3, q4⟩ := HA.out
              match acc, q1 with
              | [a0], _ => exact ⟨by simp, by first | exact q2 | simp, by first | exact q3 | simp, by first | exact q4 | simp⟩
            case measure => simp [intOf]
          · go_wp2_with fail
            go_region
            go_wp2_with fail
            go_roundw
            case rel =>
              refine ⟨3, _, _, _, r2, acc ++ [tn], x, y, tn, _, rfl, rfl, by omega, hd2, by omega, by omega, rfl, HST.out.symm, ?_, by omega, by omega, by omega⟩
              obtain ⟨q1, q2, q3, q4⟩ := HA.out
              match acc, q1 with
              | [a0, a1], _ => exact ⟨by simp, by first | exact q2 | simp, by first | exact q3 | simp, by first | exact q4 | simp⟩
            case measure => simp [intOf]
        · have hbad := HT.out
          have hst : takesL (3 - k) acc r = ((takeL r).2.2, [], []) := by
            rw [show 3 - k = (3 - (k + 1)) + 1 by omega]
            unfold takesL
            rw [if_neg he]
          rw [hst] at hbad
          have hr1 : oneL l = ((takeL r).2.2, noIt, []) := by
            rw [HV.out, ← hbad]
            exact if_neg he
          have HR := Lib.hid hr1
          generalize (takeL r).2.2 = te at *
          have h0 : ¬ (te : Int) = 0 := by omega
          clear hr1 hst hbad HT he
          go_wp2_with fail
          refine bodyPost_ret (v := .tuple #[.agg #[.int .i64 0, .int .i64 0, .int .u64 0, .int .u64 0, .int .i64 0], .slice none 0 0, .int .i64 (te : Int)]) (by simp [results, Try.results65, go_sem]) rfl ?_
          rw [HR.out, noIt_c]
          exact ⟨none, 0, 0, rfl, Rd.empty, by omega, by omega, (((Up.refl w).alloc _).alloc _).drewN _⟩
      · have h3 : k = 3 := by omega
        subst h3
        have hT := HT.out
        have hok : (takesL 3 [] l2) = (0, acc, r) := by rw [← hT]; rfl
        obtain ⟨q1, q2, q3, q4⟩ := HA.out
        have hr1 : oneL l = (0, mkIt b0 b1 x y z, r) := by
          rw [HV.out, hok, if_pos rfl, q2, q3, q4]
        have HR := Lib.hid hr1
        clear hr1 hok hT q1 q2 q3 q4 HT HA
        go_wp2_with fail
        go_region_with (go_at_call 84; refine (unsign_any z _ (by omega)).mono ?_; rintro e w1 ⟨rfl, rfl⟩)
        all_goals
          go_wp2_with fail
          refine bodyPost_ret (v := .tuple #[.agg #[.int .i64 (b0 : Int), .int .i64 (b1 : Int), .int .u64 (x : Int), .int .u64 (y : Int), .int .i64 (unsignZ z)], .slice A' n' c', .int .i64 0]) (by simp [results, Try.results65, go_sem]) rfl ?_
          rw [HR.out, mkIt_c b0 b1 x y z hb0 hb1 (by omega) (by omega) (by omega)]
          exact ⟨A', n', c', rfl, hrr.below (Below.mono ((((Up.refl w).alloc _).alloc _).drewN _) hB), hnc, hnn, (((Up.refl w).alloc _).alloc _).drewN _⟩
end Go.Proofs.Ytnjmekjaingniaa

/-
  The walk of item.Read.
-/
namespace Go.Proofs.Ytnjmekjaingniaa
open Go.RowKit
set_option linter.unusedVariables false

/-- k items, one behind the other -/
def itsL : Nat → List It → List UInt8 → Nat × List It × List UInt8
  | 0, acc, l => (0, acc, l)
  | k + 1, acc, l => if (oneL l).1 = 0 then itsL k (acc ++ [(oneL l).2.1]) (oneL l).2.2 else ((oneL l).1, [], [])
/-- what Read tells: the error, the items -/
def readL (l : List UInt8) : Nat × List It :=
  if (takeL l).2.2 ≠ 0 then ((takeL l).2.2, [])
  else if 2000 < (takeL l).1 then (2, [])
  else if (itsL (takeL l).1 [] (l.drop (takeL l).2.1)).1 ≠ 0 then ((itsL (takeL l).1 [] (l.drop (takeL l).2.1)).1, [])
  else if (itsL (takeL l).1 [] (l.drop (takeL l).2.1)).2.2.length = 0 ∧ (itsL (takeL l).1 [] (l.drop (takeL l).2.1)).2.1.all okB = true then (0, (itsL (takeL l).1 [] (l.drop (takeL l).2.1)).2.1)
  else (3, [])

theorem itemsT : SlT Try.prog 22 25 5 40 := SlT.mk' Try.underlying22 (z := .agg #[.int .i64 0, .int .i64 0, .int .u64 0, .int .u64 0, .int .i64 0]) (by kernel_rfl) rfl (by decide)
/-- the slice is a row of the call's own that holds these items -/
def OwnI (w : World) (base : Nat) (A : Option Addr) (n c : Nat) (l : List It) : Prop := w.ownsRow base 25 5 (.slice A n c) n (itcs l)
section
variable {w w' : World} {base n c : Nat} {A : Option Addr} {l : List It}
theorem OwnI.rd (h : OwnI w base A n c l) : Rd w w.heap.size 5 A n (itcs l) := Rd.own h
theorem OwnI.len (h : OwnI w base A n c l) : n = l.length := h.rd.ilen
theorem OwnI.up (h : OwnI w base A n c l) (hu : Up w w') : OwnI w' base A n c l := own_up h hu
end

set_option maxRecDepth 100000 in
set_option maxHeartbeats 3200000 in
theorem read_any (A : Option Addr) (n c : Nat) (l : List UInt8) (w : World) (hr : Rd w w.heap.size 1 A n (bvs l)) (hn : n ≤ 9223372036854775807) (hc : n ≤ c) :
    Calls Try.prog 37 #[.slice A n c] w fun e w' => ∃ A' n' c', e = .returned (.tuple #[.slice A' n' c', .int .i64 ((readL l).1 : Int)]) ∧ OwnI w' w.heap.size A' n' c' (readL l).2 ∧ Up w w' := by
  have CUT := cut_from_b
  have nil0 : ∀ w0, OwnI w0 w.heap.size none 0 0 [] := fun w0 => World.ownsRow_nil _ _ _ _
  have NIL := Lib.hid nil0
  clear nil0
  have HL := Lib.hid hr.blen
  by_cases he : (takeL l).2.2 = 0
  · have hok := takeL_ok he
    by_cases hbig : 2000 < (takeL l).1
    · have hv : readL l = (2, []) := by unfold readL; rw [if_neg (by simpa using he), if_pos hbig]
      have HV := Lib.hid hv
      clear hv
      go_enter Try.func37, Try.ntmps37
      go_wp2_with fail
      refine (take_any A n c l w hr hn).mono ?_
      rintro e w1 ⟨rfl, rfl⟩
      rw [he]
      generalize (takeL l).1 = tn at *
      generalize (takeL l).2.1 = ts at *
      clear he
      go_wp2_with fail
      go_ret2
      rw [HV.out]
      exact ⟨none, 0, 0, rfl, NIL.out _, Up.refl _⟩
    · have hv : readL l = if (itsL (takeL l).1 [] (l.drop (takeL l).2.1)).1 ≠ 0 then ((itsL (takeL l).1 [] (l.drop (takeL l).2.1)).1, [])
          else if (itsL (takeL l).1 [] (l.drop (takeL l).2.1)).2.2.length = 0 ∧ (itsL (takeL l).1 [] (l.drop (takeL l).2.1)).2.1.all okB = true then (0, (itsL (takeL l).1 [] (l.drop (takeL l).2.1)).2.1) else (3, []) := by
        conv => lhs; unfold readL
        rw [if_neg (by simpa using he), if_neg hbig]
      have HV := Lib.hid hv
      clear hv
      have hd := hr.bfrom (k := (takeL l).2.1) (cap := c) (by have := HL.out; omega) hc
      have htl : (takeL l).2.1 ≤ n := by have := HL.out; omega
      go_enter Try.func37, Try.ntmps37
      go_wp2_with fail
      refine (take_any A n c l w hr hn).mono ?_
      rintro e w1 ⟨rfl, rfl⟩
      rw [he]
      generalize (takeL l).1 = tn at *
      generalize (takeL l).2.1 = ts at *
      generalize l.drop ts = l2 at *
      clear he
      obtain ⟨h1, h2', h3, h4⟩ := hok
      have t1 : (0 : Int) ≤ ts := by omega
      have t2 : (ts : Int) ≤ n := by omega
      go_wp2_with fail
      go_loopw [0, 7, 28] (fun q v i wr => ∃ (k : Nat) (A' : Option Addr) (n' c' : Nat) (r : List UInt8) (R : Option Addr) (m d : Nat) (acc : List It), i = .int .u64 (k : Int) ∧ q = .slice A' n' c' ∧ v = .slice R m d ∧ k ≤ tn ∧ Rd wr w.heap.size 1 A' n' (bvs r) ∧ n' ≤ c' ∧ n' ≤ n ∧ m = k ∧
          OwnI wr w.heap.size R m d acc ∧ Hid (itsL (tn - k) acc r = itsL tn [] l2) ∧ Up w wr) (fun _ _ i _ => tn - (intOf i).toNat)
      case atStart => exact ⟨0, _, _, _, l2, none, 0, 0, [], rfl, rfl, rfl, by omega, hd, by omega, by omega, rfl, NIL.out _, rfl, Up.refl _⟩
      case round =>
        obtain ⟨k, A', n', c', r, R, m, d, acc, rfl, rfl, rfl, hk, hrr, hnc, hnn, hmk, hown, HT, hu⟩ := hrel
        clear hd hr
        by_cases hlt : k < tn
        · go_wp2_with fail
          refine (one_any A' n' c' r wr w.heap.size hu.size hrr (by omega) hnc).mono ?_
          rintro e w1 ⟨A2, n2, c2, rfl, hr2, hnc2, hnn2, hu2⟩
          by_cases h1e : (oneL r).1 = 0
          · have hst : itsL tn [] l2 = itsL (tn - (k + 1)) (acc ++ [(oneL r).2.1]) (oneL r).2.2 := by
              rw [← HT.out, show tn - k = (tn - (k + 1)) + 1 by omega]
              conv => lhs; unfold itsL
              rw [if_pos h1e]
            have HST := Lib.hid hst
            rw [h1e]
            clear hst h1e HT
            generalize (oneL r).2.1 = it at *
            generalize (oneL r).2.2 = r2 at *
            have hag : Value.agg (itc it).toArray = .agg #[.int .i64 it.s.toInt, .int .i64 it.k.toInt, .int .u64 (it.t.toNat : Int), .int .u64 (it.v.toNat : Int), .int .i64 it.x.toInt] := rfl
            rw [hag]
            clear hag
            have hown1 := hown.up hu2
            subst hmk
            have hm2 : m ≤ 2000 := by omega
            go_wp2_with (at_builtin; refine wpList_append_rd _ itemsT (news := itcs [it]) (World.ownsRow.alloc (World.ownsRow.alloc hown1 _) _) (Rd.ilit_at _ [it] _ _ (by simp) rfl) (itcs_one _) (by simp; omega) (by simp; omega) (by simp; have := hu.size; have := hu2.size; omega) rfl rfl rfl rfl ?_; intro v3 w3 hown3 hg3 hat3; obtain ⟨R3, d3, rfl⟩ := own_form hown3)
            have hu3 : Up w w3 := (((hu.trans hu2).alloc _).alloc _).grown hg3 (fun g hg => (hown1.lt g hg).1)
            go_roundw
            case rel =>
              refine ⟨m + 1, A2, n2, c2, r2, R3, m + 1, d3, acc ++ [it], by go_num, rfl, rfl, by omega, ?_, hnc2, by omega, rfl, ?_, HST.out.symm, hu3⟩
              · have hz1 : w.heap.size ≤ w1.heap.size := Nat.le_trans hu.size hu2.size
                exact hr2.below ((((Below.refl w.heap.size w1).alloc hz1 _).alloc (by simp; omega) _).grown hg3 (by simp; omega) (fun g hg => (hown1.lt g hg).1))
              · show World.ownsRow _ _ _ _ _ _ _
                rw [itcs_append]; exact hown3
            case measure => simp [intOf]; omega
          · have hst : itsL tn [] l2 = ((oneL r).1, [], []) := by
              rw [← HT.out, show tn - k = (tn - (k + 1)) + 1 by omega]
              unfold itsL
              rw [if_neg h1e]
            have hv : readL l = ((oneL r).1, []) := by rw [HV.out, hst, if_pos h1e]
            have HR := Lib.hid hv
            clear hst hv HT
            generalize (oneL r).1 = te at *
            have h0 : ¬ (te : Int) = 0 := by omega
            generalize (oneL r).2.1 = it at *
            have hag : Value.agg (itc it).toArray = .agg #[.int .i64 it.s.toInt, .int .i64 it.k.toInt, .int .u64 (it.t.toNat : Int), .int .u64 (it.v.toNat : Int), .int .i64 it.x.toInt] := rfl
            rw [hag]
            clear hag h1e
            go_wp2_with fail
            go_ret2
            rw [HR.out]
            exact ⟨none, 0, 0, rfl, NIL.out _, (hu.trans hu2).alloc _⟩
        · subst hmk
          have hkt : m = tn := by omega
          subst hkt
          have hT : itsL m [] l2 = (0, acc, r) := by rw [← HT.out, Nat.sub_self]; rfl
          have hv := HV.out
          rw [hT, if_neg (by simp)] at hv
          have hrl := hrr.blen
          by_cases hr0 : n' = 0
          · subst hr0
            have hr0' : r.length = 0 := hrl.symm
            cases hall : acc.all okB
            · rw [if_neg (by simp [hall])] at hv
              have HR := Lib.hid hv
              have HA := Lib.hid hall
              clear hv hall hT HT hr0' hrl
              go_wp2_with fail
              refine (all_any R m d acc wr hown.rd (by omega)).mono ?_
              rintro e w1 ⟨rfl, hu2⟩
              rw [HA.out]
              go_wp2_with fail
              go_ret2
              rw [HR.out]
              exact ⟨none, 0, 0, rfl, NIL.out _, hu.trans hu2⟩
            · rw [if_pos ⟨hr0', hall⟩] at hv
              have HR := Lib.hid hv
              have HA := Lib.hid hall
              clear hv hall hT HT hr0' hrl
              go_wp2_with fail
              refine (all_any R m d acc wr hown.rd (by omega)).mono ?_
              rintro e w1 ⟨rfl, hu2⟩
              rw [HA.out]
              go_wp2_with fail
              go_ret2
              rw [HR.out]
              exact ⟨R, m, d, rfl, hown.up hu2, hu.trans hu2⟩
          · rw [if_neg (fun h => hr0 (by rw [hrl]; exact h.1))] at hv
            have HR := Lib.hid hv
            clear hv hT HT hrl
            have h0 : (0 : Int) < n' := by omega
            go_wp2_with fail
            go_ret2
            rw [HR.out]
            exact ⟨none, 0, 0, rfl, NIL.out _, hu⟩
  · have hv : readL l = ((takeL l).2.2, []) := by unfold readL; rw [if_pos he]
    have HV := Lib.hid hv
    clear hv
    go_enter Try.func37, Try.ntmps37
    go_wp2_with fail
    refine (take_any A n c l w hr hn).mono ?_
    rintro e w1 ⟨rfl, rfl⟩
    generalize (takeL l).2.2 = te at *
    have h0 : ¬ (te : Int) = 0 := by omega
    go_wp2_with fail
    go_ret2
    rw [HV.out]
    exact ⟨none, 0, 0, rfl, NIL.out _, Up.refl _⟩
end Go.Proofs.Ytnjmekjaingniaa

/-
  Plain laws of numbers as bytes.
-/
namespace Go.Proofs.Ytnjmekjaingniaa
open Go.RowKit
set_option linter.unusedVariables false

theorem pow_split (x i : Nat) : x % 128 * 128 ^ i + x / 128 * 128 ^ (i + 1) = x * 128 ^ i := by
  have h := Nat.mod_add_div x 128
  calc x % 128 * 128 ^ i + x / 128 * 128 ^ (i + 1) = (x % 128 + 128 * (x / 128)) * 128 ^ i := by rw [Nat.pow_succ, Nat.add_mul]; congr 1; rw [Nat.mul_comm 128, Nat.mul_assoc, Nat.mul_comm 128]
    _ = x * 128 ^ i := by rw [h]
theorem takeGo_numB (r : List UInt8) : ∀ (n x i acc : Nat), x ≤ n → i ≤ 9 → x < 2 ^ (64 - 7 * i) → (0 < i → 0 < x) → takeGo (numB x ++ r) i acc = (acc + x * 128 ^ i, i + (numB x).length, 0) := by
  intro n
  induction n with
  | zero =>
    intro x i acc hx hi h1 h2
    have h0 : x = 0 := by omega
    subst h0
    have : i = 0 := by rcases Nat.eq_zero_or_pos i with h | h; exact h; exact absurd (h2 h) (by omega)
    subst this
    rw [numB_lo (by omega)]
    exact takeGo_end (by simp) (by decide)
  | succ n ih =>
    intro x i acc hx hi h1 h2
    by_cases hlt : x < 128
    · rw [numB_lo hlt]
      have e : (UInt8.ofNat x).toNat = x := by simp; omega
      rw [List.cons_append, List.nil_append, takeGo_end, e]
      · rw [Nat.mod_eq_of_lt hlt]; rfl
      · rw [e]
        rintro (⟨h9, hx1⟩ | ⟨h0, hx0⟩)
        · subst h9; simp at h1; omega
        · have := h2 h0; omega
      · rw [e]; exact hlt
    · rw [numB_hi hlt]
      have e : (UInt8.ofNat (x % 128 + 128)).toNat = x % 128 + 128 := by simp; omega
      have h8 : i ≤ 8 := by
        rcases Nat.lt_or_ge i 9 with h | h
        · omega
        · have : i = 9 := by omega
          subst this; simp at h1; omega
      rw [List.cons_append, takeGo_more, e, ih (x / 128) (i + 1) _ (by omega) (by omega) ?_ (fun _ => by omega)]
      · rw [show (x % 128 + 128) % 128 = x % 128 by omega, Nat.add_assoc, pow_split, List.length_cons]
        simp only [Prod.mk.injEq, and_true, true_and]; omega
      · rw [Nat.div_lt_iff_lt_mul (by decide), show (128 : Nat) = 2 ^ 7 from rfl, ← Nat.pow_add]
        rw [show 64 - 7 * (i + 1) + 7 = 64 - 7 * i by omega]; exact h1
      · rw [e]; omega
      · rw [e]; omega
theorem takeL_numB (x : Nat) (r : List UInt8) (hx : x < 18446744073709551616) : takeL (numB x ++ r) = (x, (numB x).length, 0) := by
  have := takeGo_numB r x x 0 0 (Nat.le_refl _) (by omega) (by simpa using hx) (fun h => absurd h (by omega))
  unfold takeL
  rw [this]; simp
theorem takeL_nil : takeL [] = (0, 0, 4) := rfl
theorem numsB_drop (q : List UInt64) (k : Nat) : (numsB q).drop (numsB (q.take k)).length = numsB (q.drop k) := by
  have : numsB q = numsB (q.take k) ++ numsB (q.drop k) := by unfold numsB; rw [← List.flatMap_append, List.take_append_drop]
  rw [this, List.drop_left]
theorem numsB_cons (x : UInt64) (q : List UInt64) : numsB (x :: q) = numB x.toNat ++ numsB q := by simp [numsB]
theorem foldN_eightB (x : Nat) (hx : x < 18446744073709551616) : foldN (eightB x) = x := by
  have e : eightB x = [UInt8.ofNat (x / 2 ^ 56), UInt8.ofNat (x / 2 ^ 48), UInt8.ofNat (x / 2 ^ 40), UInt8.ofNat (x / 2 ^ 32), UInt8.ofNat (x / 2 ^ 24), UInt8.ofNat (x / 2 ^ 16), UInt8.ofNat (x / 2 ^ 8), UInt8.ofNat (x / 2 ^ 0)] := rfl
  rw [e]
  simp only [foldN, List.foldl_cons, List.foldl_nil, UInt8.toNat_ofNat']
  omega
theorem uneightL_eightB (x : Nat) (hx : x < 18446744073709551616) : uneightL (eightB x) = (x, 0) := by
  unfold uneightL
  rw [eightB_len, if_neg (by omega), List.take_of_length_le (by rw [eightB_len]; omega), foldN_eightB x hx]
theorem numB_inj {a b : Nat} (ha : a < 18446744073709551616) (hb : b < 18446744073709551616) (h : numB a = numB b) : a = b := by
  have h1 := takeL_numB a [] ha
  have h2 := takeL_numB b [] hb
  rw [h, h2] at h1
  exact (Prod.mk.inj h1).1.symm
theorem numB_mono : ∀ (n a b : Nat), b ≤ n → a ≤ b → (numB a).length ≤ (numB b).length := by
  intro n
  induction n with
  | zero => intro a b hb hab; rw [show a = b by omega]; exact Nat.le_refl _
  | succ n ih =>
    intro a b hb hab
    by_cases h1 : a < 128
    · rw [numB_lo h1]; exact numB_pos b
    · rw [numB_hi h1, numB_hi (show ¬ b < 128 by omega)]
      have := ih (a / 128) (b / 128) (by omega) (Nat.div_le_div_right hab)
      simp only [List.length_cons]; omega
/-- what bytes come to as one number, the highest first -/
def valB : List UInt8 → Nat
  | [] => 0
  | c :: r => c.toNat * 256 ^ r.length + valB r
theorem valB_lt (l : List UInt8) : valB l < 256 ^ l.length := by
  induction l with
  | nil => simp [valB]
  | cons c r ih =>
    have hc := c.toNat_lt
    have h1 : c.toNat * 256 ^ r.length ≤ 255 * 256 ^ r.length := Nat.mul_le_mul_right _ (by omega)
    simp only [valB, List.length_cons, Nat.pow_succ]; omega
theorem foldl_valB (l : List UInt8) : ∀ a : Nat, l.foldl (fun a c => a * 256 + c.toNat) a = a * 256 ^ l.length + valB l := by
  induction l with
  | nil => intro a; simp [valB]
  | cons c r ih =>
    intro a
    rw [List.foldl_cons, ih, valB, List.length_cons, Nat.pow_succ, Nat.add_mul, Nat.mul_assoc, Nat.mul_comm 256, Nat.add_assoc]
theorem foldN_valB (l : List UInt8) : foldN l = valB l := by unfold foldN; rw [foldl_valB]; simp
theorem less_valB : ∀ (l m : List UInt8), l.length = m.length → Op.bytesLess l m = decide (valB l < valB m)
  | [], [], _ => by simp [Op.bytesLess]
  | c :: r, d :: s, h => by
    have hl : r.length = s.length := by simpa using h
    have ih := less_valB r s hl
    have h1 := valB_lt r
    have h2 := valB_lt s
    rw [hl] at h1
    simp only [Op.bytesLess, valB, ih, hl]
    by_cases hcd : c < d
    · have hcd' : c.toNat < d.toNat := UInt8.lt_iff_toNat_lt.1 hcd
      have hm : (c.toNat + 1) * 256 ^ s.length ≤ d.toNat * 256 ^ s.length := Nat.mul_le_mul_right _ hcd'
      rw [Nat.add_mul] at hm
      have : c.toNat * 256 ^ s.length + valB r < d.toNat * 256 ^ s.length + valB s := by omega
      simp [hcd, this]
    · by_cases he : c = d
      · subst he; simp
      · have hcd' : d.toNat < c.toNat := by
          have h3 : ¬ c.toNat < d.toNat := fun h => hcd (UInt8.lt_iff_toNat_lt.2 h)
          have h4 : c.toNat ≠ d.toNat := fun h => he (UInt8.toNat_inj.1 h)
          omega
        have hm : (d.toNat + 1) * 256 ^ s.length ≤ c.toNat * 256 ^ s.length := Nat.mul_le_mul_right _ hcd'
        rw [Nat.add_mul] at hm
        have : ¬ c.toNat * 256 ^ s.length + valB r < d.toNat * 256 ^ s.length + valB s := by omega
        simp [hcd, he, this]
theorem less_eightB {a b : Nat} (ha : a < 18446744073709551616) (hb : b < 18446744073709551616) : Op.bytesLess (eightB a) (eightB b) = decide (a < b) := by
  rw [less_valB _ _ (by rw [eightB_len, eightB_len]), ← foldN_valB, ← foldN_valB, foldN_eightB a ha, foldN_eightB b hb]
theorem eightB_inj {a b : Nat} (ha : a < 18446744073709551616) (hb : b < 18446744073709551616) (h : eightB a = eightB b) : a = b := by
  rw [← foldN_eightB a ha, ← foldN_eightB b hb, h]
/-! ### lists -/
theorem takeGo_cut : ∀ (n x j i acc : Nat), x ≤ n → i ≤ 9 → x < 2 ^ (64 - 7 * i) → (0 < i → 0 < x) → j < (numB x).length → takeGo ((numB x).take j) i acc = (0, 0, 4) := by
  intro n
  induction n with
  | zero =>
    intro x j i acc hx hi h1 h2 hj
    have h0 : x = 0 := by omega
    subst h0
    rw [numB_lo (by omega)] at hj ⊢
    have : j = 0 := by simpa using hj
    subst this
    rfl
  | succ n ih =>
    intro x j i acc hx hi h1 h2 hj
    by_cases hlt : x < 128
    · rw [numB_lo hlt] at hj ⊢
      have : j = 0 := by simpa using hj
      subst this
      rfl
    · rw [numB_hi hlt] at hj ⊢
      have e : (UInt8.ofNat (x % 128 + 128)).toNat = x % 128 + 128 := by simp; omega
      have h8 : i ≤ 8 := by
        rcases Nat.lt_or_ge i 9 with h | h
        · omega
        · have : i = 9 := by omega
          subst this; simp at h1; omega
      cases j with
      | zero => rfl
      | succ j =>
        rw [List.take_succ_cons, takeGo_more, e]
        · refine ih (x / 128) j (i + 1) _ (by omega) (by omega) ?_ (fun _ => by omega) (by simpa using hj)
          rw [Nat.div_lt_iff_lt_mul (by decide), show (128 : Nat) = 2 ^ 7 from rfl, ← Nat.pow_add]
          rw [show 64 - 7 * (i + 1) + 7 = 64 - 7 * i by omega]; exact h1
        · rw [e]; omega
        · rw [e]; omega
theorem takeL_cut {x j : Nat} (hx : x < 18446744073709551616) (hj : j < (numB x).length) : takeL ((numB x).take j) = (0, 0, 4) :=
  takeGo_cut x x j 0 0 (Nat.le_refl _) (by omega) (by simpa using hx) (fun h => absurd h (by omega)) hj
theorem unGo_full (q : List UInt64) : ∀ (pre r : List UInt8) (acc : List UInt64), unGo q.length (pre ++ (numsB q ++ r)) pre.length acc = (acc ++ q, pre.length + (numsB q).length, 0) := by
  induction q with
  | nil => intro pre r acc; simp [unGo, numsB]
  | cons x q ih =>
    intro pre r acc
    rw [List.length_cons, unGo, List.drop_left, numsB_cons, List.append_assoc, takeL_numB _ _ x.toNat_lt]
    have h := ih (pre ++ numB x.toNat) r (acc ++ [UInt64.ofNat x.toNat])
    rw [List.length_append, List.append_assoc] at h
    simp only [if_true]
    rw [h]
    simp [Nat.add_assoc]
theorem unGo_cut (q : List UInt64) : ∀ (pre : List UInt8) (j : Nat) (acc : List UInt64), j < (numsB q).length → unGo q.length (pre ++ (numsB q).take j) pre.length acc = ([], 0, 4) := by
  induction q with
  | nil => intro pre j acc h; simp [numsB] at h
  | cons x q ih =>
    intro pre j acc hj
    rw [numsB_cons] at hj ⊢
    rw [List.length_cons, unGo, List.drop_left]
    by_cases h : j < (numB x.toNat).length
    · rw [List.take_append_of_le_length (by omega), takeL_cut x.toNat_lt h]; simp
    · have e : (numB x.toNat ++ numsB q).take j = numB x.toNat ++ (numsB q).take (j - (numB x.toNat).length) := by
        rw [List.take_append]
        rw [List.take_of_length_le (by omega)]
      rw [e, takeL_numB _ _ x.toNat_lt]
      have h2 := ih (pre ++ numB x.toNat) (j - (numB x.toNat).length) (acc ++ [UInt64.ofNat x.toNat]) (by rw [List.length_append] at hj; omega)
      rw [List.length_append, List.append_assoc] at h2
      simp only [if_true]
      exact h2
theorem unlist_full (q : List UInt64) (r : List UInt8) (most : Int) (hq : q.length < 18446744073709551616) (hm : (q.length : Int) ≤ most) : unlistL (listB q ++ r) most = (q, (listB q).length, 0) := by
  unfold unlistL listB
  rw [List.append_assoc, takeL_numB _ _ hq]
  rw [if_neg (by simp), if_neg (by split <;> omega)]
  rw [unGo_full]
  simp
theorem unlist_long (q : List UInt64) (r : List UInt8) (most : Int) (hq : q.length < 18446744073709551616) (hm : most < (q.length : Int)) (h0 : 0 < q.length) : unlistL (listB q ++ r) most = ([], 0, 2) := by
  unfold unlistL listB
  rw [List.append_assoc, takeL_numB _ _ hq]
  rw [if_neg (by simp), if_pos (by split <;> omega)]
theorem unlist_cut (q : List UInt64) (j : Nat) (most : Int) (hq : q.length < 18446744073709551616) (hm : (q.length : Int) ≤ most) (hj : j < (listB q).length) : unlistL ((listB q).take j) most = ([], 0, 4) := by
  unfold unlistL
  by_cases h : j < (numB q.length).length
  · have e : (listB q).take j = (numB q.length).take j := by unfold listB; rw [List.take_append_of_le_length (by omega)]
    rw [e, takeL_cut hq h]; simp
  · have e : (listB q).take j = numB q.length ++ (numsB q).take (j - (numB q.length).length) := by
      unfold listB; rw [List.take_append, List.take_of_length_le (by omega)]
    rw [e, takeL_numB _ _ hq, if_neg (by simp), if_neg (by split <;> omega)]
    exact unGo_cut q _ _ _ (by unfold listB at hj; rw [List.length_append] at hj; omega)
theorem listB_pos (q : List UInt64) : 1 ≤ (listB q).length := by unfold listB; rw [List.length_append]; have := numB_pos q.length; omega
theorem listB_len (q : List UInt64) (hq : q.length < 18446744073709551616) : (listB q).length ≤ 10 + 10 * q.length := by
  unfold listB; rw [List.length_append]; have := numB_ten hq; have := numsB_len q; omega

theorem unGo_len : ∀ (k : Nat) (l : List UInt8) (a : Nat) (acc : List UInt64), (unGo k l a acc).1.length ≤ acc.length + (l.length - a)
  | 0, l, a, acc => by simp only [unGo]; omega
  | k + 1, l, a, acc => by
    rw [unGo]
    split
    · rename_i h
      have h2 := takeL_ok h
      have h3 := unGo_len k l (a + (takeL (l.drop a)).2.1) (acc ++ [UInt64.ofNat (takeL (l.drop a)).1])
      simp only [List.length_append, List.length_singleton, List.length_drop] at h2 h3
      omega
    · simp
theorem unlistL_len (l : List UInt8) (most : Int) : (unlistL l most).1.length ≤ l.length := by
  have h := unGo_len (takeL l).1 l (takeL l).2.1 []
  simp only [List.length_nil] at h
  unfold unlistL
  by_cases h1 : (takeL l).2.2 ≠ 0
  · rw [if_pos h1]; simp
  · rw [if_neg h1]
    by_cases h2 : (if most < 0 then 0 else most) < ((takeL l).1 : Int)
    · rw [if_pos h2]; simp
    · rw [if_neg h2]; omega

/-! ### numbers that are none -/
/-- a byte more than is needed: the last byte's highest bit set, nought behind it -/
theorem takeGo_more0 : ∀ (n x i acc : Nat), x ≤ n → ∀ l c, numB x = l ++ [c] → takeGo (l ++ [UInt8.ofNat (c.toNat % 128 + 128), 0]) i acc = (0, 0, 3) := by
  intro n
  induction n with
  | zero =>
    intro x i acc hx l c h
    rw [numB_lo (by omega)] at h
    cases l with
    | nil => exact step0 i acc _
    | cons d l => have := congrArg List.length h; simp at this
  | succ n ih =>
    intro x i acc hx l c h
    by_cases hlt : x < 128
    · rw [numB_lo hlt] at h
      cases l with
      | nil => exact step0 i acc _
      | cons d l => have := congrArg List.length h; simp at this
    · rw [numB_hi hlt] at h
      cases l with
      | nil =>
        have h1 := numB_pos (x / 128)
        have := congrArg List.length h; simp at this
        rw [this] at h1; simp at h1
      | cons d l =>
        rw [List.cons_append, List.cons.injEq] at h
        obtain ⟨rfl, h2⟩ := h
        rw [List.cons_append]
        by_cases hf : (i = 9 ∧ 1 < (UInt8.ofNat (x % 128 + 128)).toNat) ∨ (0 < i ∧ (UInt8.ofNat (x % 128 + 128)).toNat = 0)
        · exact takeGo_form hf
        · rw [takeGo_more hf (by simp; omega)]
          exact ih (x / 128) _ _ (by omega) l c h2
where
  step0 (i acc : Nat) (c : UInt8) : takeGo ([] ++ [UInt8.ofNat (c.toNat % 128 + 128), 0]) i acc = (0, 0, 3) := by
    rw [List.nil_append]
    by_cases hf : (i = 9 ∧ 1 < (UInt8.ofNat (c.toNat % 128 + 128)).toNat) ∨ (0 < i ∧ (UInt8.ofNat (c.toNat % 128 + 128)).toNat = 0)
    · exact takeGo_form hf
    · rw [takeGo_more hf (by simp; omega)]
      exact takeGo_form (.inr ⟨by omega, rfl⟩)
theorem takeL_more0 {x : Nat} {l : List UInt8} {c : UInt8} (h : numB x = l ++ [c]) : takeL (l ++ [UInt8.ofNat (c.toNat % 128 + 128), 0]) = (0, 0, 3) :=
  takeGo_more0 x x 0 0 (Nat.le_refl _) l c h
theorem takeL_great (c : UInt8) (h : 1 < c.toNat) : takeL [255, 255, 255, 255, 255, 255, 255, 255, 255, c] = (0, 0, 3) := by
  unfold takeL
  iterate 9 (rw [takeGo_more (by decide) (by decide)])
  exact takeGo_form (.inl ⟨rfl, h⟩)

/-! ### a mask -/
theorem i64_and_le (a : Int) (m : Nat) (hm : m < 9223372036854775808) : ∃ k : Nat, bits .and .i64 a (m : Int) = (k : Int) ∧ k ≤ m := by
  refine ⟨(BitVec.ofInt 64 a).toNat &&& m, ?_, Nat.and_le_right⟩
  have hk : (BitVec.ofInt 64 a).toNat &&& m ≤ m := Nat.and_le_right
  show IntKind.i64.wrap ((BitVec.ofInt 64 a &&& BitVec.ofInt 64 (m : Int)).toNat : Int) = _
  rw [BitVec.toNat_and, ofInt_u64 m (by omega), IntKind.wrap_i64]
  omega
end Go.Proofs.Ytnjmekjaingniaa
