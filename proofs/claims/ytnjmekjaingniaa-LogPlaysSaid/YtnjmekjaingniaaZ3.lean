/-
  Texts of this claim, joined: ItemLaw, LogB, LogA, ItemW4, ItemW6, RefW2, ItemW5, ItemW9, LogW1, Rw, RwO, FrameW10, ItemW10, LogW2, Apart, DkA, DkW1, DkW2, DkW3, DkW4.
-/
import Derived.Deep.QuietTactic
import Derived.BigQuiet
import Derived.Laws.MakeOwn
import Derived.IntWalk
import Derived.Deep.Cut
import Derived.Deep.CutRange
import Derived.Maps.OwnOps
import Derived.Maps.OwnSet
import Derived.Laws.LoneSync
import Derived.Maps.RangeWalk
import Derived.StringKeys
import Derived.Lib.MinMax
import Derived.Test.YtnjmekjaingniaaZ2
/-
  Plain laws of items' bytes.
-/
namespace Go.Proofs.Ytnjmekjaingniaa
open Go.RowKit
set_option linter.unusedVariables false
set_option linter.unusedSimpArgs false

theorem ok_bd {i : It} (h : okB i = true) : 0 ≤ i.s.toInt ∧ i.s.toInt ≤ 255 ∧ 1 ≤ i.k.toInt ∧ i.k.toInt ≤ 2 := by
  simp only [okB, okZ, decide_eq_true_eq] at h; omega
theorem byteOf_val {z : Int} (h0 : 0 ≤ z) (h1 : z ≤ 255) : ((byteOf z).toNat : Int) = z := by
  unfold byteOf; simp; omega
theorem takesL_ok {k : Nat} {acc : List Nat} {x : Nat} {r : List UInt8} (hx : x < 18446744073709551616) : takesL (k + 1) acc (numB x ++ r) = takesL k (acc ++ [x]) r := by
  conv => lhs; unfold takesL
  rw [takeL_numB x r hx, if_pos rfl]
  simp
theorem mkIt_self {i : It} (h : okB i = true) : mkIt (byteOf i.s.toInt).toNat (byteOf i.k.toInt).toNat i.t.toNat i.v.toNat (signN i.x.toInt) = i := by
  obtain ⟨a1, a2, a3, a4⟩ := ok_bd h
  have s1 := byteOf_val a1 a2
  have k1 := byteOf_val (z := i.k.toInt) (by omega) (by omega)
  have hx : unsignZ (signN i.x.toInt) = i.x.toInt := unsign_sign _
  unfold mkIt
  rw [s1, k1, hx]
  simp
theorem oneL_it {i : It} (r : List UInt8) (h : okB i = true) : oneL (itB i ++ r) = (0, i, r) := by
  have hl : ¬ (itB i ++ r).length < 2 := by simp [itB]
  have hd : (itB i ++ r).drop 2 = numB i.t.toNat ++ (numB i.v.toNat ++ (numB (signN i.x.toInt) ++ r)) := by simp [itB]
  have h0 : (itB i ++ r).getD 0 0 = byteOf i.s.toInt := by simp [itB]
  have h1 : (itB i ++ r).getD 1 0 = byteOf i.k.toInt := by simp [itB]
  have ht : takesL 3 [] ((itB i ++ r).drop 2) = (0, [i.t.toNat, i.v.toNat, signN i.x.toInt], r) := by
    rw [hd, takesL_ok i.t.toNat_lt, takesL_ok i.v.toNat_lt, takesL_ok (signN_lt _ (i64_bd i.x).1 (i64_bd i.x).2)]; rfl
  unfold oneL
  rw [if_neg hl, ht, if_pos rfl, h0, h1]
  simp only [List.getD_cons_zero, List.getD_cons_succ]
  rw [mkIt_self h]
theorem takesL_nil {k : Nat} {acc : List Nat} {l : List UInt8} (h : (takeL l).2.2 ≠ 0) : (takesL (k + 1) acc l).1 ≠ 0 := by
  unfold takesL; rw [if_neg h]; exact h
theorem takes1_cut {x j k : Nat} {acc : List Nat} (hx : x < 18446744073709551616) (hj : j < (numB x).length) : (takesL (k + 1) acc ((numB x).take j)).1 ≠ 0 :=
  takesL_nil (by rw [takeL_cut hx hj]; decide)
theorem takes_step_cut {x j k : Nat} {acc : List Nat} {r : List UInt8} (hx : x < 18446744073709551616) (ih : ∀ j acc, j < r.length → (takesL k acc (r.take j)).1 ≠ 0) (hj : j < (numB x ++ r).length) : (takesL (k + 1) acc ((numB x ++ r).take j)).1 ≠ 0 := by
  by_cases hlt : j < (numB x).length
  · rw [List.take_append_of_le_length (by omega)]
    exact takes1_cut hx hlt
  · rw [List.take_append, List.take_of_length_le (by omega), takesL_ok hx]
    exact ih _ _ (by rw [List.length_append] at hj; omega)
theorem oneL_cut {i : It} {j : Nat} (hj : j < (itB i).length) : (oneL ((itB i).take j)).1 ≠ 0 := by
  unfold oneL
  by_cases h2 : ((itB i).take j).length < 2
  · rw [if_pos h2]; decide
  · rw [if_neg h2]
    have hj2 : 2 ≤ j := by rw [List.length_take] at h2; omega
    have hd : ((itB i).take j).drop 2 = (numB i.t.toNat ++ (numB i.v.toNat ++ numB (signN i.x.toInt))).take (j - 2) := by
      rw [List.drop_take]; rfl
    have hjl : j - 2 < (numB i.t.toNat ++ (numB i.v.toNat ++ numB (signN i.x.toInt))).length := by
      simp only [itB, List.length_cons] at hj; omega
    have hne : (takesL 3 [] (((itB i).take j).drop 2)).1 ≠ 0 := by
      rw [hd]
      refine takes_step_cut i.t.toNat_lt (fun j acc hj => ?_) hjl
      refine takes_step_cut i.v.toNat_lt (fun j acc hj => ?_) hj
      exact takes1_cut (signN_lt _ (i64_bd i.x).1 (i64_bd i.x).2) hj
    rw [if_neg hne]; exact hne
theorem itsL_ok : ∀ (l : List It) (acc : List It) (r : List UInt8), l.all okB = true → itsL l.length acc (l.flatMap itB ++ r) = (0, acc ++ l, r)
  | [], acc, r, _ => by simp [itsL]
  | i :: l, acc, r, h => by
    simp only [List.all_cons, Bool.and_eq_true] at h
    rw [List.length_cons, List.flatMap_cons, List.append_assoc]
    conv => lhs; unfold itsL
    rw [oneL_it _ h.1, if_pos rfl, itsL_ok l _ r h.2]
    simp
theorem itsL_cut : ∀ (l : List It) (acc : List It) (j : Nat), l.all okB = true → j < (l.flatMap itB).length → (itsL l.length acc ((l.flatMap itB).take j)).1 ≠ 0
  | [], _, j, _, hj => by simp at hj
  | i :: l, acc, j, h, hj => by
    simp only [List.all_cons, Bool.and_eq_true] at h
    rw [List.length_cons, List.flatMap_cons]
    by_cases hlt : j < (itB i).length
    · rw [List.take_append_of_le_length (by omega)]
      unfold itsL
      rw [if_neg (oneL_cut hlt)]
      exact oneL_cut hlt
    · rw [List.take_append, List.take_of_length_le (by omega)]
      conv => lhs; unfold itsL
      rw [oneL_it _ h.1, if_pos rfl]
      exact itsL_cut l _ _ h.2 (by rw [List.flatMap_cons, List.length_append] at hj; omega)
theorem may_all {l : List It} (h : bytesE l = 0) : l.length ≤ 2000 ∧ l.all okB = true := by
  unfold bytesE at h
  by_cases h1 : 2000 < l.length
  · rw [if_pos h1] at h; cases h
  · rw [if_neg h1] at h
    refine ⟨by omega, ?_⟩
    cases ha : l.all okB
    · rw [ha] at h; simp at h
    · rfl
theorem readL_row {l : List It} (r : List UInt8) (h : bytesE l = 0) : readL (itemsB l ++ r) = if r.length = 0 then (0, l) else (3, []) := by
  obtain ⟨h1, h2⟩ := may_all h
  have ht := takeL_numB l.length (l.flatMap itB ++ r) (by omega)
  have hi := itsL_ok l [] r h2
  unfold readL
  rw [show itemsB l ++ r = numB l.length ++ (l.flatMap itB ++ r) by simp [itemsB], ht]
  simp only [ne_eq, not_true, if_false, List.drop_left', hi, List.nil_append]
  rw [if_neg (by omega)]
  by_cases hr : r.length = 0
  · rw [if_pos ⟨hr, h2⟩, if_pos hr]
  · rw [if_neg (fun h => hr h.1), if_neg hr]
theorem readL_cut {l : List It} {j : Nat} (h : bytesE l = 0) (hj : j < (itemsB l).length) : (readL ((itemsB l).take j)).1 ≠ 0 := by
  obtain ⟨h1, h2⟩ := may_all h
  unfold readL
  by_cases hlt : j < (numB l.length).length
  · have e : (itemsB l).take j = (numB l.length).take j := by unfold itemsB; rw [List.take_append_of_le_length (by omega)]
    have hn : (takeL ((numB l.length).take j)).2.2 ≠ 0 := by rw [takeL_cut (by omega) hlt]; decide
    rw [e, if_pos hn]; exact hn
  · have e : (itemsB l).take j = numB l.length ++ (l.flatMap itB).take (j - (numB l.length).length) := by
      unfold itemsB; rw [List.take_append, List.take_of_length_le (by omega)]
    have hc := itsL_cut l [] (j - (numB l.length).length) h2 (by unfold itemsB at hj; rw [List.length_append] at hj; omega)
    rw [e, takeL_numB l.length _ (by omega)]
    simp only [ne_eq, not_true, if_false, List.drop_left']
    rw [if_neg (by omega), if_pos hc]
    exact hc
end Go.Proofs.Ytnjmekjaingniaa

/-
  Batches: plain words.
-/
namespace Go.Proofs.Ytnjmekjaingniaa
open Go.RowKit
set_option linter.unusedVariables false
set_option linter.unusedSimpArgs false

/-- a batch's error -/
def batE (l : List It) : Nat := if l.length = 0 then 1 else if bytesE l ≠ 0 then bytesE l else if 60000 < (itemsB l).length then 2 else 0
def batB (l : List It) : List UInt8 := if batE l = 0 then frameB 1 (itemsB l) else []
theorem batE_ok {l : List It} (h : batE l = 0) : 0 < l.length ∧ bytesE l = 0 ∧ (itemsB l).length ≤ 60000 ∧ l.length ≤ 2000 ∧ l.all okB = true := by
  unfold batE at h
  split at h
  · cases h
  · split at h
    · omega
    · split at h
      · cases h
      · rename_i h1 h2 h3
        have h4 : bytesE l = 0 := by omega
        refine ⟨by omega, h4, by omega, ?_⟩
        unfold bytesE at h4
        split at h4
        · cases h4
        · split at h4
          · exact ⟨by omega, by assumption⟩
          · cases h4
theorem itemsB_two (l : List It) (h : l.length ≤ 2000) : (itemsB l).length ≤ 64010 := by
  have h1 := numB_ten (n := l.length) (by omega)
  have h2 : ∀ q : List It, (q.flatMap itB).length ≤ 32 * q.length := fun q => by
    induction q with
    | nil => simp
    | cons i q ih => have := itB_len i; simp only [List.flatMap_cons, List.length_append, List.length_cons]; omega
  have h3 := h2 l
  unfold itemsB
  rw [List.length_append]
  omega
theorem bytesE_le {l : List It} (h : bytesE l = 0) : l.length ≤ 2000 := by
  unfold bytesE at h
  split at h
  · cases h
  · omega
end Go.Proofs.Ytnjmekjaingniaa

/-
  Logs of batches: plain laws.
-/
namespace Go.Proofs.Ytnjmekjaingniaa
open Go.RowKit
set_option linter.unusedVariables false
set_option linter.unusedSimpArgs false

section
variable {σ : Type} (step : σ → Nat → List UInt8 → Option σ)
theorem seqF_stepG (l : List UInt8) {f k : Nat} {s : σ} (h : k < l.length) : seqF step l (f + 1) k s = (if (takeR (l.drop k)).1 = 0 then (match step s (takeR (l.drop k)).2.1 (takeR (l.drop k)).2.2.1 with | none => none | some s' => seqF step l f (k + (takeR (l.drop k)).2.2.2) s')
       else if (takeR (l.drop k)).1 = 4 then some (s, k) else none) := by
  conv => lhs; unfold seqF
  rw [if_pos h]
  rfl
theorem seqF_stepB (l : List UInt8) {f k : Nat} {s : σ} (h : k < l.length) : seqF step l (f + 1) k s = (if (takeR (l.drop k)).1 = 0 then (step s (takeR (l.drop k)).2.1 (takeR (l.drop k)).2.2.1).bind fun s' => seqF step l f (k + (takeR (l.drop k)).2.2.2) s'
       else if (takeR (l.drop k)).1 = 4 then some (s, k) else none) := by
  rw [seqF_stepG step l h]
  cases step s (takeR (l.drop k)).2.1 (takeR (l.drop k)).2.2.1 <;> rfl
theorem seqF_stopG (l : List UInt8) {f k : Nat} {s : σ} (h : l.length ≤ k) : seqF step l f k s = some (s, k) := by
  cases f with
  | zero => rfl
  | succ f => unfold seqF; rw [if_neg (by omega)]
end
/-- a log with one frame more -/
def stepL (s : List (List It)) (k : Nat) (b : List UInt8) : Option (List (List It)) :=
  if k = 1 ∧ (readL b).1 = 0 ∧ 0 < (readL b).2.length then some (s ++ [(readL b).2]) else none
/-- what Replay tells -/
def replL (l : List UInt8) : Option (List (List It) × Nat) := seqF stepL l (l.length + 1) 0 []
theorem repl_split (l : List UInt8) : replL l = if (splitL l).2.2.2 ≠ 0 ∧ (splitL l).2.2.2 ≠ 4 then none else (foldF stepL [] (splitL l).1 (splitL l).2.1).map fun s => (s, (splitL l).2.2.1) := by
  unfold replL
  rw [seq_split]
  have hs : splitG l (l.length + 1) 0 [] [] = splitL l := rfl
  rw [hs]
  by_cases h : (splitL l).2.2.2 = 0 ∨ (splitL l).2.2.2 = 4
  · rw [if_pos h, if_neg (by omega)]
  · rw [if_neg h, if_pos (by omega)]
theorem itsL_len3 : ∀ (k : Nat) (acc : List It) (l : List UInt8), (itsL k acc l).2.1.length ≤ acc.length + k
  | 0, acc, l => by simp [itsL]
  | k + 1, acc, l => by
    unfold itsL; split
    · have := itsL_len3 k (acc ++ [(oneL l).2.1]) (oneL l).2.2
      rw [List.length_append, List.length_singleton] at this; omega
    · simp
theorem readL_len3 (l : List UInt8) : (readL l).2.length ≤ 2000 := by
  unfold readL
  split
  · simp
  · split
    · simp
    · split
      · simp
      · split
        · have := itsL_len3 (takeL l).1 [] (l.drop (takeL l).2.1)
          simp only [List.length_nil] at this ⊢; omega
        · simp
section
variable {σ : Type} (step : σ → Nat → List UInt8 → Option σ)
/-- what each step keeps holds of what the fold comes to -/
theorem seqF_inv (l : List UInt8) (P : σ → Nat → Prop) (hP : ∀ s s' k kd b d, P s k → step s kd b = some s' → 12 ≤ d → P s' (k + d)) :
    ∀ (f k : Nat) (s : σ), P s k → ∀ r, seqF step l f k s = some r → P r.1 r.2 ∧ (k ≤ l.length → r.2 ≤ l.length)
  | 0, k, s, h, r, e => by
    injection e with e
    subst e
    exact ⟨h, id⟩
  | f + 1, k, s, h, r, e => by
    by_cases hk : k < l.length
    · rw [seqF_stepB step l hk] at e
      by_cases h0 : (takeR (l.drop k)).1 = 0
      · rw [if_pos h0] at e
        obtain ⟨h1, h2, -⟩ := takeR_ok h0
        rw [List.length_drop] at h2
        cases hs : step s (takeR (l.drop k)).2.1 (takeR (l.drop k)).2.2.1 with
        | none => rw [hs] at e; cases e
        | some s' =>
          rw [hs] at e
          have ih := seqF_inv l P hP f _ s' (hP _ _ _ _ _ _ h hs h1) r e
          exact ⟨ih.1, fun _ => ih.2 (by omega)⟩
      · rw [if_neg h0] at e
        by_cases h4 : (takeR (l.drop k)).1 = 4
        · rw [if_pos h4] at e
          injection e with e
          subst e
          exact ⟨h, id⟩
        · rw [if_neg h4] at e; cases e
    · rw [seqF_stopG step l (by omega)] at e
      injection e with e
      subst e
      exact ⟨h, id⟩
end
/-- what Replay tells is not long -/
theorem replL_bd {l : List UInt8} {r : List (List It) × Nat} (h : replL l = some r) : r.1.length ≤ r.2 ∧ r.2 ≤ l.length ∧ ∀ q ∈ r.1, q.length ≤ 2000 := by
  have h1 := seqF_inv stepL l (fun s k => s.length ≤ k ∧ ∀ q ∈ s, q.length ≤ 2000) (fun s s' k kd b d hs he hd => by
    unfold stepL at he
    split at he
    · injection he with he
      subst he
      refine ⟨by rw [List.length_append, List.length_singleton]; omega, fun q hq => ?_⟩
      rcases List.mem_append.1 hq with hq | hq
      · exact hs.2 q hq
      · rw [List.mem_singleton] at hq
        subst hq
        exact readL_len3 b
    · cases he) (l.length + 1) 0 [] ⟨Nat.le_refl _, fun q hq => by cases hq⟩ r h
  exact ⟨h1.1.1, h1.2 (Nat.zero_le _), h1.1.2⟩
/-- the log of batches -/
def logB (g : List (List It)) : List UInt8 := g.flatMap batB
def goodL (l : List (List It)) : List (List It) := l.filter fun q => batE q == 0
def endL (g : List (List It)) (n : Nat) : Nat := (logB (g.take n)).length
theorem goodL_ok {l : List (List It)} : ∀ q ∈ goodL l, batE q = 0 := fun q hq => by
  have := (List.mem_filter.1 hq).2
  simpa using this
theorem batB_frame {q : List It} (h : batE q = 0) : batB q = frameB ((1 : Nat) : Int) (itemsB q) ∧ (itemsB q).length ≤ 60000 := by
  obtain ⟨-, -, h3, -, -⟩ := batE_ok h
  unfold batB
  rw [if_pos h]
  exact ⟨rfl, h3⟩
theorem batB_len {q : List It} (h : batE q = 0) : 12 ≤ (batB q).length ∧ (batB q).length ≤ 60012 := by
  obtain ⟨h1, h2⟩ := batB_frame h
  rw [h1, frameB_len]; omega
theorem logB_append (a b : List (List It)) : logB (a ++ b) = logB a ++ logB b := by simp [logB]
theorem logB_cons (q : List It) (g : List (List It)) : logB (q :: g) = batB q ++ logB g := by simp [logB]
theorem logB_one (q : List It) : logB [q] = batB q := by simp [logB]
theorem logB_len (g : List (List It)) (h : ∀ q ∈ g, batE q = 0) : 12 * g.length ≤ (logB g).length ∧ (logB g).length ≤ 60012 * g.length := by
  induction g with
  | nil => simp [logB]
  | cons q g ih =>
    have h1 := ih (fun x hx => h x (List.mem_cons_of_mem _ hx))
    have h2 := batB_len (h q (List.mem_cons_self ..))
    have e : logB (q :: g) = batB q ++ logB g := by simp [logB]
    rw [e, List.length_append, List.length_cons]
    omega
theorem stepL_bat (s : List (List It)) {q : List It} (h : batE q = 0) : stepL s 1 (itemsB q) = some (s ++ [q]) := by
  obtain ⟨h1, h2, -, -, -⟩ := batE_ok h
  have h3 := readL_row [] h2
  rw [List.append_nil] at h3
  have h3 : readL (itemsB q) = (0, q) := h3
  unfold stepL
  rw [h3, if_pos ⟨rfl, rfl, h1⟩]
/-- whole batches are gone over -/
theorem seq_logs : ∀ (g : List (List It)) (pre T : List UInt8) (f : Nat) (s : List (List It)), (∀ q ∈ g, batE q = 0) →
    seqF stepL (pre ++ (logB g ++ T)) (f + g.length) pre.length s = seqF stepL (pre ++ (logB g ++ T)) f (pre ++ logB g).length (s ++ g)
  | [], pre, T, f, s, _ => by simp [logB]
  | q :: g, pre, T, f, s, h => by
    have hq := h q (List.mem_cons_self ..)
    obtain ⟨hb, hl⟩ := batB_frame hq
    have e : pre ++ (logB (q :: g) ++ T) = (pre ++ batB q) ++ (logB g ++ T) := by simp [logB]
    have ih := seq_logs g (pre ++ batB q) T f (s ++ [q]) (fun x hx => h x (List.mem_cons_of_mem _ hx))
    have hlen := batB_len hq
    have hd : ((pre ++ batB q) ++ (logB g ++ T)).drop pre.length = frameB ((1 : Nat) : Int) (itemsB q) ++ (logB g ++ T) := by
      rw [List.append_assoc, List.drop_left, hb]
    have ht := takeR_frame 1 (itemsB q) (logB g ++ T) (by omega) (by omega) hl
    rw [e, List.length_cons, show f + (g.length + 1) = (f + g.length) + 1 by omega, seqF_stepG stepL _ (by rw [List.length_append, List.length_append]; omega), hd, ht]
    simp only [if_true, stepL_bat s hq]
    have hpl : pre.length + ((itemsB q).length + 12) = (pre ++ batB q).length := by rw [List.length_append, hb, frameB_len]
    rw [hpl, ih]
    have e1 : pre ++ logB (q :: g) = pre ++ batB q ++ logB g := by simp [logB]
    have e2 : s ++ [q] ++ g = s ++ (q :: g) := by simp
    rw [e1, e2]
theorem replL_more (l : List UInt8) {f : Nat} (h : l.length < f) : replL l = seqF stepL l f 0 [] := seqF_more stepL l _ _ 0 [] (by omega) (by omega)
theorem repl_logs (g : List (List It)) (T : List UInt8) (h : ∀ q ∈ g, batE q = 0) : replL (logB g ++ T) = seqF stepL (logB g ++ T) (T.length + 1) (logB g).length g := by
  have h1 := logB_len g h
  have h2 := seq_logs g [] T ((logB g ++ T).length + 1) [] h
  simp only [List.nil_append, List.length_nil] at h2
  rw [replL_more (logB g ++ T) (f := (logB g ++ T).length + 1 + g.length) (by omega), h2]
  exact seqF_more stepL _ _ _ _ _ (by rw [List.length_append]; omega) (by rw [List.length_append]; omega)
/-- a log tells its batches -/
theorem repl_all (g : List (List It)) (h : ∀ q ∈ g, batE q = 0) : replL (logB g) = some (g, (logB g).length) := by
  have h1 := repl_logs g [] h
  rw [List.append_nil] at h1
  rw [h1, seqF_stopG stepL _ (Nat.le_refl _)]
/-- what is torn behind whole batches ends it -/
theorem repl_torn (g : List (List It)) (T : List UInt8) (h : ∀ q ∈ g, batE q = 0) (hT : (takeR T).1 = 4) : replL (logB g ++ T) = some (g, (logB g).length) := by
  rw [repl_logs g T h]
  by_cases h0 : T.length = 0
  · have : T = [] := List.eq_nil_of_length_eq_zero h0
    subst this
    rw [seqF_stopG stepL _ (by simp)]
  · rw [seqF_stepG stepL _ (by rw [List.length_append]; omega), List.drop_left, hT, if_neg (by decide), if_pos rfl]
/-- what is spoilt behind whole batches spoils all -/
theorem repl_bad (g : List (List It)) (T : List UInt8) (h : ∀ q ∈ g, batE q = 0) (h0 : 0 < T.length) (hT : (takeR T).1 ≠ 0) (hT4 : (takeR T).1 ≠ 4) : replL (logB g ++ T) = none := by
  rw [repl_logs g T h, seqF_stepG stepL _ (by rw [List.length_append]; omega), List.drop_left, if_neg hT, if_neg hT4]
theorem endL_zero (g : List (List It)) : endL g 0 = 0 := by simp [endL, logB]
theorem endL_all (g : List (List It)) : endL g g.length = (logB g).length := by simp [endL]
theorem endL_snoc (g : List (List It)) {n : Nat} (h : n < g.length) : endL g (n + 1) = endL g n + (batB g[n]).length := by
  unfold endL
  rw [List.take_succ_eq_append_getElem h, logB_append, List.length_append, logB_one]
theorem logB_take (g : List (List It)) (n : Nat) : (logB g).take (endL g n) = logB (g.take n) ∧ (logB g).drop (endL g n) = logB (g.drop n) := by
  have e : logB g = logB (g.take n) ++ logB (g.drop n) := by rw [← logB_append, List.take_append_drop]
  unfold endL
  constructor
  · conv => lhs; rw [e]
    rw [List.take_left]
  · conv => lhs; rw [e]
    rw [List.drop_left]
theorem endL_le (g : List (List It)) (n : Nat) : endL g n ≤ (logB g).length := by
  have e : logB g = logB (g.take n) ++ logB (g.drop n) := by rw [← logB_append, List.take_append_drop]
  rw [e, List.length_append]; unfold endL; omega
theorem endL_mono (g : List (List It)) (n : Nat) : endL g n ≤ endL g (n + 1) := by
  by_cases h : n < g.length
  · rw [endL_snoc g h]; omega
  · unfold endL; rw [List.take_of_length_le (by omega), List.take_of_length_le (by omega)]; exact Nat.le_refl _
/-- a log that is cut -/
theorem repl_cut (g : List (List It)) (n k : Nat) (h : ∀ q ∈ g, batE q = 0) (hn : n ≤ g.length) (h1 : endL g n ≤ k) (h2 : n < g.length → k < endL g (n + 1)) (hk : k ≤ (logB g).length) :
    replL ((logB g).take k) = some (g.take n, endL g n) := by
  have hg : ∀ q ∈ g.take n, batE q = 0 := fun q hq => h q (List.mem_of_mem_take hq)
  have e : (logB g).take k = logB (g.take n) ++ (logB (g.drop n)).take (k - endL g n) := by
    conv => lhs; rw [← List.take_append_drop n g, logB_append]
    rw [List.take_append, List.take_of_length_le h1]
    rfl
  rw [e]
  by_cases hnl : n < g.length
  · have h3 := h2 hnl
    rw [endL_snoc g hnl] at h3
    have hq := h g[n] (List.getElem_mem hnl)
    obtain ⟨hb, hl⟩ := batB_frame hq
    have e2 : logB (g.drop n) = batB g[n] ++ logB (g.drop (n + 1)) := by
      rw [List.drop_eq_getElem_cons hnl, logB_cons]
    rw [e2, List.take_append_of_le_length (by omega)]
    refine repl_torn _ _ hg ?_
    rw [hb] at h3 ⊢
    exact takeR_cut (by omega) (by omega) hl (by omega)
  · have hne : n = g.length := by omega
    subst hne
    rw [List.drop_length]
    have := repl_all (g.take g.length) hg
    simpa [logB, endL] using this
/-- a frame with up to three bits turned is as it was, or spoilt -/
theorem takeR_bad1' {r : List UInt8} (h8 : 8 ≤ r.length) (h : openE (r.take 8) ≠ 0) : (takeR r).1 ≠ 0 ∧ (takeR r).1 ≠ 4 := by
  unfold takeR
  rw [if_neg (by omega), if_pos h]
  refine ⟨h, ?_⟩
  show openE (r.take 8) ≠ 4
  unfold openE at h ⊢
  rw [List.length_take, if_neg (by omega)] at h ⊢
  split
  · decide
  · decide
theorem takeR_bad2' {r : List UInt8} (h8 : openE (r.take 8) = 0) (hl : headN r + 12 ≤ r.length) (hk : ¬ ((r.getD 0 0).toNat < 1 ∨ 100 < (r.getD 0 0).toNat ∨ 60000 < headN r)) (h : openE ((r.drop 8).take (headN r + 4)) ≠ 0) : (takeR r).1 ≠ 0 ∧ (takeR r).1 ≠ 4 := by
  unfold takeR
  rw [if_neg (by omega), if_neg (by omega), if_neg hk, if_neg (by omega), if_pos h]
  refine ⟨h, ?_⟩
  show openE ((r.drop 8).take (headN r + 4)) ≠ 4
  unfold openE at h ⊢
  rw [List.length_take, List.length_drop, if_neg (by omega)] at h ⊢
  split
  · decide
  · decide
theorem frame_flips' (k : Nat) (l post : List UInt8) (hk1 : 1 ≤ k) (hk2 : k ≤ 100) (hl : l.length ≤ 60000) {ps : List Nat} (h3 : ps.length ≤ 3) (hb : ∀ p ∈ ps, p < 8 * (frameB (k : Int) l).length) :
    flipsB (frameB (k : Int) l) ps = frameB (k : Int) l ∨ ((takeR (flipsB (frameB (k : Int) l) ps ++ post)).1 ≠ 0 ∧ (takeR (flipsB (frameB (k : Int) l) ps ++ post)).1 ≠ 4) := by
  have hH : (sealB (headB (k : Int) l.length)).length = 8 := by rw [sealB_len]; rfl
  have hB := sealB_len l
  have hf : frameB (k : Int) l = sealB (headB (k : Int) l.length) ++ sealB l := rfl
  rw [frameB_len] at hb
  obtain ⟨p1, p2, e, l1, l2, b1, b2⟩ := flips_split ps (sealB (headB (k : Int) l.length)) (sealB l) (fun p hp => by have := hb p hp; omega)
  rw [hf, e]
  have fl1 := flipsB_len p1 (sealB (headB (k : Int) l.length))
  have fl2 := flipsB_len p2 (sealB l)
  by_cases o1 : openE (flipsB (sealB (headB (k : Int) l.length)) p1) = 0
  · have e1 := open_flips (openE_seal _) (by omega) b1 (by omega) o1
    rw [e1]
    by_cases o2 : openE (flipsB (sealB l) p2) = 0
    · left
      rw [open_flips (openE_seal _) (by omega) b2 (by omega) o2]
    · right
      have hN := headN_head (k : Int) l.length hl (flipsB (sealB l) p2 ++ post)
      have e8 : (sealB (headB (k : Int) l.length) ++ (flipsB (sealB l) p2 ++ post)).take 8 = sealB (headB (k : Int) l.length) := by rw [← hH, List.take_left]
      have g0 : ((sealB (headB (k : Int) l.length) ++ (flipsB (sealB l) p2 ++ post)).getD 0 0).toNat = k := by
        have : (sealB (headB (k : Int) l.length) ++ (flipsB (sealB l) p2 ++ post)).getD 0 0 = byteOf (k : Int) := by
          unfold sealB headB
          simp
        rw [this]; exact byteOf_nat k (by omega)
      rw [List.append_assoc]
      apply takeR_bad2'
      · rw [e8, openE_seal]
      · rw [hN, List.length_append, List.length_append]; omega
      · rw [g0, hN]; omega
      · rw [hN]
        have e3 : (sealB (headB (k : Int) l.length) ++ (flipsB (sealB l) p2 ++ post)).drop 8 = flipsB (sealB l) p2 ++ post := by rw [← hH, List.drop_left]
        have e4 : (flipsB (sealB l) p2 ++ post).take (l.length + 4) = flipsB (sealB l) p2 := by rw [← hB, ← fl2, List.take_left]
        rw [e3, e4]
        exact o2
  · right
    apply takeR_bad1'
    · rw [List.length_append, List.length_append]; omega
    · have e3 : (flipsB (sealB (headB (k : Int) l.length)) p1 ++ flipsB (sealB l) p2 ++ post).take 8 = flipsB (sealB (headB (k : Int) l.length)) p1 := by
        rw [List.append_assoc, show (8 : Nat) = (flipsB (sealB (headB (k : Int) l.length)) p1).length by rw [fl1, hH], List.take_left]
      rw [e3]
      exact o1
/-- a log of which one batch has up to three bits turned -/
theorem repl_flips (g : List (List It)) (h : ∀ q ∈ g, batE q = 0) {m : Nat} (hm : m < g.length) {ps : List Nat} (h3 : ps.length ≤ 3) (hb : ∀ p ∈ ps, p < 8 * (endL g (m + 1) - endL g m)) :
    flipsB (logB g) (ps.map (8 * endL g m + ·)) = logB g ∨ replL (flipsB (logB g) (ps.map (8 * endL g m + ·))) = none := by
  have hsplit : logB g = logB (g.take m) ++ (batB g[m] ++ logB (g.drop (m + 1))) := by
    conv => lhs; rw [← List.take_append_drop m g, logB_append]
    rw [List.drop_eq_getElem_cons hm, logB_cons]
  have hq := h g[m] (List.getElem_mem hm)
  obtain ⟨hbf, hl⟩ := batB_frame hq
  have hb2 : ∀ p ∈ ps, p < 8 * (batB g[m]).length := by
    intro p hp
    have := hb p hp
    rw [endL_snoc g hm] at this
    omega
  have hend : (logB (g.take m)).length = endL g m := rfl
  have hmid := flips_mid ps (logB (g.take m)) (batB g[m]) (logB (g.drop (m + 1))) hb2
  rw [← hsplit, hend] at hmid
  have hfl := flipsB_len ps (batB g[m])
  rw [hbf] at hmid hb2 hfl
  rcases frame_flips' 1 (itemsB g[m]) (logB (g.drop (m + 1))) (by omega) (by omega) hl h3 hb2 with he | ⟨he, he4⟩
  · left
    rw [he, ← hbf, ← hsplit] at hmid
    exact hmid
  · right
    rw [hmid]
    refine repl_bad _ _ (fun q hq => h q (List.mem_of_mem_take hq)) ?_ he he4
    rw [List.length_append, hfl, frameB_len]; omega
end Go.Proofs.Ytnjmekjaingniaa

/-
  The walks of the laws of items: awake, Some; of the document's May, Equal.
-/
namespace Go.Proofs.Ytnjmekjaingniaa
open Go.RowKit
set_option linter.unusedVariables false

/-- what stays as it is in whatever world behind w -/
theorem cells_stay {w : World} {B g : Nat} {i : It} (h : Rd w B 5 (some ⟨g, 0, none⟩) 1 (itc i)) (hB : B ≤ w.heap.size) : ∀ W, Up w W →
    W.cell? ⟨g, 0, none⟩ = some (.int .i64 i.s.toInt) ∧ W.cell? ⟨g, 1, none⟩ = some (.int .i64 i.k.toInt) ∧ W.cell? ⟨g, 2, none⟩ = some (.int .u64 (i.t.toNat : Int)) ∧ W.cell? ⟨g, 3, none⟩ = some (.int .u64 (i.v.toNat : Int)) ∧ W.cell? ⟨g, 4, none⟩ = some (.int .i64 i.x.toInt) :=
  fun _ hW => five_cells (h.stay hB hW)

theorem lit_stay (w : World) (i : It) (cs : Array Value) (t : TypeId) {g : Nat} (hg : w.heap.size = g) (h : cs.toList = itc i) : ∀ W, Up (w.alloc (.cells cs t)) W →
    W.cell? ⟨g, 0, none⟩ = some (.int .i64 i.s.toInt) ∧ W.cell? ⟨g, 1, none⟩ = some (.int .i64 i.k.toInt) ∧ W.cell? ⟨g, 2, none⟩ = some (.int .u64 (i.t.toNat : Int)) ∧ W.cell? ⟨g, 3, none⟩ = some (.int .u64 (i.v.toNat : Int)) ∧ W.cell? ⟨g, 4, none⟩ = some (.int .i64 i.x.toInt) := by
  have h1 := Rd.ilit_at w [i] cs t hg (by simp [itcs, h])
  simp only [itcs, List.flatMap_singleton, List.length_singleton] at h1
  exact cells_stay h1 (Nat.le_refl _)

/-- a literal of five cells -/
theorem cells5 (w : World) (v0 v1 v2 v3 v4 : Value) (t : TypeId) {g : Nat} (hg : w.heap.size = g) : ∀ W, Up (w.alloc (.cells #[v0, v1, v2, v3, v4] t)) W →
    W.cell? ⟨g, 0, none⟩ = some v0 ∧ W.cell? ⟨g, 1, none⟩ = some v1 ∧ W.cell? ⟨g, 2, none⟩ = some v2 ∧ W.cell? ⟨g, 3, none⟩ = some v3 ∧ W.cell? ⟨g, 4, none⟩ = some v4 := by
  subst hg
  intro W hW
  have h : ∀ j, W.cell? ⟨w.heap.size, j, none⟩ = (w.alloc (.cells #[v0, v1, v2, v3, v4] t)).cell? ⟨w.heap.size, j, none⟩ := fun j => hW.cell (by simp)
  have h2 : ∀ j, W.cell? ⟨w.heap.size, j, none⟩ = #[v0, v1, v2, v3, v4][j]? := fun j => by rw [h j, World.cell?_alloc_at (w := w) _ t _ _ rfl]
  exact ⟨h2 0, h2 1, h2 2, h2 3, h2 4⟩
/-- a contract that turns nothing that is there, told from a world behind which the call stands -/
theorem keepUp {P : Program} {f : FuncId} {args : Array Value} {v : Value} (h : ∀ W, Calls P f args W fun e w' => e = .returned v ∧ Up W w') (w3 : World) : Hid (∀ W, Up w3 W → Calls P f args W fun e w' => e = .returned v ∧ Up w3 w') :=
  fun W hW => (h W).mono fun e w' ⟨he, hu⟩ => ⟨he, hW.trans hu⟩

end Go.Proofs.Ytnjmekjaingniaa

/-
  The walks of the document's May and Equal; of the law's Some.
-/
namespace Go.Proofs.Ytnjmekjaingniaa
open Go.RowKit
set_option linter.unusedVariables false

theorem u64_and_le (a : Int) (m : Nat) (hm : m < 9223372036854775808) : ∃ k : Nat, bits .and .u64 a (m : Int) = (k : Int) ∧ k ≤ m := by
  refine ⟨(BitVec.ofInt 64 a).toNat &&& m, ?_, Nat.and_le_right⟩
  have hk : (BitVec.ofInt 64 a).toNat &&& m ≤ m := Nat.and_le_right
  show IntKind.u64.wrap ((BitVec.ofInt 64 a &&& BitVec.ofInt 64 (m : Int)).toNat : Int) = _
  rw [BitVec.toNat_and, ofInt_u64 m (by omega), IntKind.wrap_u64]
  omega

set_option maxRecDepth 100000 in
set_option maxHeartbeats 1600000 in
theorem may_any (Q : Option Addr) (m d : Nat) (l : List It) (w : World) (hq : Rd w w.heap.size 5 Q m (itcs l)) (hm : m ≤ 9223372036854775807) :
    Calls Try.prog 34 #[.slice Q m d] w fun e w' => e = .returned (.int .i64 (bytesE l : Int)) ∧ Up w w' := by
  have HL := Lib.hid hq.ilen
  by_cases hbig : 2000 < m
  · have hE : Hid (bytesE l = 2) := by show _ = _; unfold bytesE; rw [if_pos (by rw [← HL.out]; exact hbig)]
    go_enter Try.func34, Try.ntmps34
    go_wp2_with fail
    go_ret
    rw [hE.out]
    exact ⟨rfl, Up.refl _⟩
  · go_enter Try.func34, Try.ntmps34
    go_wp2_with fail
    go_loopw [3] (fun i wr => ∃ k : Nat, i = .int .i64 (k : Int) ∧ k ≤ m ∧ Hid ((l.take k).all okB = true) ∧ Up w wr) (fun i _ => m - (intOf i).toNat)
    case atStart => exact ⟨0, rfl, by omega, rfl, Up.refl _⟩
    case round =>
      obtain ⟨k, rfl, hk, hall, hu⟩ := hrel
      by_cases hlt : k < m
      · obtain ⟨b, o, i, rfl, hb, hik, c0, c1, c2, c3, c4⟩ := (hq.stay (Nat.le_refl _) hu).item_at hlt
        have HI := Lib.hid hik
        clear hik
        go_wp2_with fail
        refine (rok_any i wr).mono ?_
        rintro e w2 ⟨rfl, hu2⟩
        have hkl : k < l.length := by have := HL.out; omega
        have htk : l.take (k + 1) = l.take k ++ [i] := by
          rw [List.take_succ_eq_append_getElem hkl]
          have := HI.out
          rw [List.getElem?_eq_getElem hkl] at this
          injection this with this
          rw [this]
        have HT := Lib.hid htk
        clear htk c0 c1 c2 c3 c4
        cases hok : okB i
        · have hE : Hid (bytesE l = 1) := by
            show _ = _
            have : okB l[k] = false := by
              have h := HI.out
              rw [List.getElem?_eq_getElem hkl] at h
              injection h with h
              rw [h]; exact hok
            have h2 : l.all okB = false := by
              rw [List.all_eq_false]
              exact ⟨l[k], List.getElem_mem _, by rw [this]; simp⟩
            unfold bytesE
            rw [if_neg (by rw [← HL.out]; exact hbig), h2]; rfl
          clear hok
          go_wp2_with fail
          go_ret
          rw [hE.out]
          exact ⟨rfl, hu.trans hu2⟩
        · have HO := Lib.hid hok
          clear hok
          go_wp2_with fail
          go_roundw
          case rel =>
            refine ⟨k + 1, by go_num, by omega, ?_, hu.trans hu2⟩
            show _ = _
            rw [HT.out, List.all_append, hall.out]
            simp [HO.out]
          case measure => simp [intOf]; omega
      · go_wp2_with fail
        go_ret
        have hE : bytesE l = 0 := by
          have hk' : k = l.length := by have := HL.out; omega
          have h := hall.out
          rw [hk', List.take_of_length_le (Nat.le_refl _)] at h
          unfold bytesE
          rw [if_neg (by rw [← HL.out]; exact hbig), h]; rfl
        rw [hE]
        exact ⟨rfl, hu⟩

set_option maxRecDepth 100000 in
set_option maxHeartbeats 1600000 in
theorem equal_any (A B : Option Addr) (n c m d : Nat) (l : List It) (w : World) (ha : Rd w w.heap.size 5 A n (itcs l)) (hb : Rd w w.heap.size 5 B m (itcs l)) (hn : n ≤ 4611686018427387903) :
    Calls Try.prog 38 #[.slice A n c, .slice B m d] w fun e w' => e = .returned (.bool true) ∧ Up w w' := by
  obtain rfl : m = n := by have := ha.ilen; have := hb.ilen; omega
  have hne : ((m : Int) != (m : Int)) = false := by simp
  go_enter Try.func38, Try.ntmps38
  go_wp2
  go_loopw [5] (fun i wr => ∃ k : Nat, i = .int .i64 (k : Int) ∧ k ≤ m ∧ Up w wr) (fun i _ => m - (intOf i).toNat)
  case atStart => exact ⟨0, rfl, by omega, Up.refl _⟩
  case round =>
    obtain ⟨k, rfl, hk, hu⟩ := hrel
    by_cases hlt : k < m
    · obtain ⟨b1, o1, i1, rfl, hb1, hk1, c0, c1, c2, c3, c4⟩ := (ha.stay (Nat.le_refl _) hu).item_at hlt
      obtain ⟨b2, o2, i2, rfl, hb2, hk2, d0, d1, d2, d3, d4⟩ := (hb.stay (Nat.le_refl _) hu).item_at hlt
      obtain rfl : i1 = i2 := by rw [hk1] at hk2; injection hk2
      have hi0 : (0 : Int) ≤ (k : Int) := by omega
      have hi1 : (k : Int) < (m : Int) := by omega
      clear hk1 hk2 ha hb
      go_wp2_with fail
      go_quiet (fail)
      go_wp2_with fail
      go_roundw
      case rel => exact ⟨k + 1, by go_num, by omega, hu.drewN _⟩
      case measure => simp [intOf]; omega
    · go_wp2
      go_ret
      exact ⟨rfl, hu⟩

end Go.Proofs.Ytnjmekjaingniaa

/-
  The walks of the document's answers for numbers: Num, Eight.
-/
namespace Go.Proofs.Ytnjmekjaingniaa
open Go.RowKit
set_option linter.unusedVariables false

set_option maxRecDepth 100000 in
set_option maxHeartbeats 800000 in
theorem rnum_any (x : Nat) (w : World) (hx : (x : Int) ≤ 18446744073709551615) :
    Calls Try.prog 61 #[.int .u64 (x : Int)] w fun e w' => ∃ s : ByteArray, e = .returned (.string s) ∧ Hid (s.data.toList = numB x) ∧ Up w w' := by
  go_enter Try.func61, Try.ntmps61
  go_wp2
  go_loopw [0, 3] (fun q v wr => ∃ (m : Nat) (pre : List UInt8), q = .int .u64 (m : Int) ∧ (m : Int) ≤ 18446744073709551615 ∧ wr.ownsRow w.heap.size 5 1 v pre.length (bvs pre) ∧ Hid (pre ++ numB m = numB x) ∧ Up w wr)
    (fun q _ _ => (intOf q).toNat)
  case atStart => exact ⟨x, [], rfl, hx, World.ownsRow_nil _ _ _ _, rfl, Up.refl _⟩
  case round =>
    obtain ⟨m, pre, rfl, hm, hown, hp, hu⟩ := hrel
    have hbd : pre.length ≤ 10 := by
      have := congrArg List.length hp.out
      have h2 := numB_ten (n := x) (by omega)
      rw [List.length_append] at this; omega
    by_cases hlt : m < 128
    · have hb : Value.int .u8 (m : Int) = bv (UInt8.ofNat m) := by rw [bv_ofNat]; congr 1; omega
      have HB := Lib.hid hb; clear hb
      go_wp2_with (at_builtin; refine wpList_append_rd _ bytesT (news := bvs [UInt8.ofNat m]) (hown.alloc _) (Rd.boxb _ _ HB.out) (bvs_one _) (by omega) (by omega) (by simp; have := hu.size; omega) rfl rfl rfl rfl ?_; intro v2 w2 hown2 hg2 hat2; obtain ⟨A2, c2, rfl⟩ := own_form hown2; have hcv := run_str (l := pre ++ [UInt8.ofNat m]) c2 (by rw [bvs_append]; exact Rd.own hown2))
      go_ret
      refine ⟨_, rfl, ?_, hu.alloc _ |>.grown hg2 (fun k hk => (hown.lt k hk).1)⟩
      show _ = _
      rw [← hp.out, numB_lo hlt]
    · have HB := Lib.hid (put_byte m)
      go_wp2_with (at_builtin; refine wpList_append_rd _ bytesT (news := bvs [UInt8.ofNat (m % 128 + 128)]) (hown.alloc _) (Rd.boxb _ _ HB.out) (bvs_one _) (by omega) (by omega) (by simp; have := hu.size; omega) rfl rfl rfl rfl ?_; intro v2 w2 hown2 hg2 hat2)
      go_roundw
      case rel =>
        refine ⟨m / 128, pre ++ [UInt8.ofNat (m % 128 + 128)], by go_num, by omega, ?_, ?_, hu.alloc _ |>.grown hg2 (fun k hk => (hown.lt k hk).1)⟩
        · rw [bvs_append, List.length_append]; exact hown2
        · show _ = _; rw [← hp.out, numB_hi hlt]; simp
      case measure => simp [intOf]; omega


end Go.Proofs.Ytnjmekjaingniaa

/-
  The walks of the document's answers for items: Key, May, Equal; of the law's Some.
-/
namespace Go.Proofs.Ytnjmekjaingniaa
open Go.RowKit
set_option linter.unusedVariables false
set_option linter.unusedSimpArgs false

end Go.Proofs.Ytnjmekjaingniaa

/-
  The walk of clepsydraref5.Bytes.
-/
namespace Go.Proofs.Ytnjmekjaingniaa
open Go.RowKit
set_option linter.unusedVariables false
set_option linter.unusedSimpArgs false

set_option maxRecDepth 100000 in
set_option maxHeartbeats 1600000 in
theorem rbytes_any (Q : Option Addr) (m d : Nat) (l : List It) (w : World) (hq : Rd w w.heap.size 5 Q m (itcs l)) (hm : m ≤ 2000) :
    Calls Try.prog 35 #[.slice Q m d] w fun e w' => ∃ s : ByteArray, e = .returned (.string s) ∧ Hid (s.data.toList = itemsB l) ∧ Up w w' := by
  have HL := Lib.hid hq.ilen
  go_enter Try.func35, Try.ntmps35
  go_wp2_with fail
  refine (rnum_any m _ (by omega)).mono ?_
  rintro e w1 ⟨s0, rfl, hs0, hu1⟩
  go_wp2_with fail
  go_loopw [3, 4] (fun sv i wr => ∃ (k : Nat) (L : List UInt8), i = .int .i64 (k : Int) ∧ sv = .string (tx L) ∧ k ≤ m ∧ Hid (L = numB m ++ (l.take k).flatMap itB) ∧ L.length ≤ 10 + 32 * k ∧ Up w wr) (fun _ i _ => m - (intOf i).toNat)
  case atStart =>
    refine ⟨0, numB m, rfl, ?_, by omega, by show _ = _; simp, by have := numB_ten (n := m) (by omega); omega, hu1⟩
    rw [tx_of hs0.out]
  case round =>
    obtain ⟨k, L, rfl, rfl, hk, hs, hss, hu⟩ := hrel
    by_cases hlt : k < m
    · obtain ⟨b, o, i, rfl, hb, hik, c0, c1, c2, c3, c4⟩ := (hq.stay (Nat.le_refl _) hu).item_at hlt
      have HI := Lib.hid hik
      clear hik
      go_wp2_with fail
      have hWw : Up w (wr.alloc (.cells #[.int .i64 i.s.toInt, .int .i64 i.k.toInt, .int .u64 (i.t.toNat : Int), .int .u64 (i.v.toNat : Int), .int .i64 i.x.toInt] 25)) := hu.alloc _
      generalize hW : wr.alloc (.cells #[.int .i64 i.s.toInt, .int .i64 i.k.toInt, .int .u64 (i.t.toNat : Int), .int .u64 (i.v.toNat : Int), .int .i64 i.x.toInt] 25) = W at *
      have hg := item_held wr i hW
      generalize wr.heap.size = g5 at *
      clear hW c0 c1 c2 c3 c4
      have HC := two_str i.s.toInt i.k.toInt
      have hn1 := numB_ten i.t.toNat_lt
      have hn2 := numB_ten i.v.toNat_lt
      have hsl := signN_lt i.x.toInt (i64_bd i.x).1 (i64_bd i.x).2
      have hn3 := numB_ten hsl
      apply Rg.region_up _ (by kernel_rfl) (by kernel_rfl) hg
      · intro QN hQN
        iterate 7 (apply Rg.RK.ok; (· intro vs w1 hS; go_simp; with_reducible rfl); (· rfl); simp only [Act.put, List.setIfInBounds_toArray, List.set_cons_zero, List.set_cons_succ, Nat.reduceAdd])
        apply Rg.RK.opn (fun v W1 => ∃ g, v = .slice (some ⟨g, 0, none⟩) 2 2 ∧ W1.cell? ⟨g, 0, none⟩ = some (.int .u8 (IntKind.u8.wrap (i.s.toInt))) ∧ W1.cell? ⟨g, 1, none⟩ = some (.int .u8 (IntKind.u8.wrap (i.k.toInt)))) Rg.ob [] []
        · rintro v W1 W2 ⟨g, rfl, h0, h1⟩ hs
          exact ⟨g, rfl, sta_some hs h0 (.inr rfl), sta_some hs h1 (.inr rfl)⟩
        · rfl
        · intro vs w1 hK hS _ K hKK
          go_simp
          refine hKK.out _ _ ⟨w1.heap.size, rfl, by simp [World.cell?_alloc_at _ _ _ _ rfl], by simp [World.cell?_alloc_at _ _ _ _ rfl]⟩ (Rg.Keeps.of_up ((Up.refl _).alloc _)) ?_
          rintro g rfl
          exact ⟨by simp, .inl (Nat.le_refl _)⟩
        simp only [Act.put, List.setIfInBounds_toArray, List.set_cons_zero, List.set_cons_succ, Nat.reduceAdd]
        apply Rg.RK.okU [7]
        · intro vs w1 hS hf
          obtain ⟨⟨g, hv, h0, h1⟩, -⟩ := hf
          rw [hv]
          go_simp
          with_reducible rfl
        · rfl
        simp only [Act.put, List.setIfInBounds_toArray, List.set_cons_zero, List.set_cons_succ, Nat.reduceAdd]
        (apply Rg.RK.ok; (· intro vs w1 hS; go_simp; rw [if_neg (by simp [tx_size, cc_length]; omega), tx_append]); (· rfl); simp only [Act.put, List.setIfInBounds_toArray, List.set_cons_zero, List.set_cons_succ, Nat.reduceAdd])
        iterate 2 (apply Rg.RK.ok; (· intro vs w1 hS; go_simp; with_reducible rfl); (· rfl); simp only [Act.put, List.setIfInBounds_toArray, List.set_cons_zero, List.set_cons_succ, Nat.reduceAdd])
        apply Rg.RK.call (.string (tx (numB i.t.toNat))) []
        · rfl
        · intro vs w1 hK hS _ K hKK
          go_simp
          refine (rnum_any _ _ (by have := i.t.toNat_lt; omega)).mono ?_
          rintro e w2 ⟨s1, rfl, hs1, hu1⟩
          rw [tx_of hs1.out]
          exact hKK.out _ hu1
        simp only [Act.put, List.setIfInBounds_toArray, List.set_cons_zero, List.set_cons_succ, Nat.reduceAdd]
        (apply Rg.RK.ok; (· intro vs w1 hS; go_simp; rw [if_neg (by simp [tx_size, cc_length]; omega), tx_append]); (· rfl); simp only [Act.put, List.setIfInBounds_toArray, List.set_cons_zero, List.set_cons_succ, Nat.reduceAdd])
        iterate 2 (apply Rg.RK.ok; (· intro vs w1 hS; go_simp; with_reducible rfl); (· rfl); simp only [Act.put, List.setIfInBounds_toArray, List.set_cons_zero, List.set_cons_succ, Nat.reduceAdd])
        apply Rg.RK.call (.string (tx (numB i.v.toNat))) []
        · rfl
        · intro vs w1 hK hS _ K hKK
          go_simp
          refine (rnum_any _ _ (by have := i.v.toNat_lt; omega)).mono ?_
          rintro e w2 ⟨s1, rfl, hs1, hu1⟩
          rw [tx_of hs1.out]
          exact hKK.out _ hu1
        simp only [Act.put, List.setIfInBounds_toArray, List.set_cons_zero, List.set_cons_succ, Nat.reduceAdd]
        (apply Rg.RK.ok; (· intro vs w1 hS; go_simp; rw [if_neg (by simp [tx_size, cc_length]; omega), tx_append]); (· rfl); simp only [Act.put, List.setIfInBounds_toArray, List.set_cons_zero, List.set_cons_succ, Nat.reduceAdd])
        iterate 2 (apply Rg.RK.ok; (· intro vs w1 hS; go_simp; with_reducible rfl); (· rfl); simp only [Act.put, List.setIfInBounds_toArray, List.set_cons_zero, List.set_cons_succ, Nat.reduceAdd])
        apply Rg.RK.call (.int .u64 (signN i.x.toInt : Int)) []
        · rfl
        · intro vs w1 hK hS _ K hKK
          go_simp
          refine (rsign_any _ _ (i64_bd i.x).1 (i64_bd i.x).2).mono ?_
          rintro e w2 ⟨rfl, rfl⟩
          exact hKK.out _ (Up.refl _)
        simp only [Act.put, List.setIfInBounds_toArray, List.set_cons_zero, List.set_cons_succ, Nat.reduceAdd]
        apply Rg.RK.call (.string (tx (numB (signN i.x.toInt)))) []
        · rfl
        · intro vs w1 hK hS _ K hKK
          go_simp
          refine (rnum_any _ _ (by omega)).mono ?_
          rintro e w2 ⟨s1, rfl, hs1, hu1⟩
          rw [tx_of hs1.out]
          exact hKK.out _ hu1
        simp only [Act.put, List.setIfInBounds_toArray, List.set_cons_zero, List.set_cons_succ, Nat.reduceAdd]
        (apply Rg.RK.ok; (· intro vs w1 hS; go_simp; rw [if_neg (by simp [tx_size, cc_length]; omega), tx_append]); (· rfl); simp only [Act.put, List.setIfInBounds_toArray, List.set_cons_zero, List.set_cons_succ, Nat.reduceAdd])
        (apply Rg.RK.ok; (· intro vs w1 hS; go_simp; with_reducible rfl); (· rfl); simp only [Act.put, List.setIfInBounds_toArray, List.set_cons_zero, List.set_cons_succ, Nat.reduceAdd])
        apply Rg.RK.fin []
        intro vs w1 hK hS _
        refine hQN.out _ _ ?_
        clear hQN
        have hUW : Up w w1 := hWw.trans (keeps_up hK)
        clear hg HC hK hS
        go_wp2_with fail
        go_roundw
        case rel =>
          have hkl : k < l.length := by have := HL.out; omega
          have htk : l.take (k + 1) = l.take k ++ [i] := by
            rw [List.take_succ_eq_append_getElem hkl]
            have := HI.out
            rw [List.getElem?_eq_getElem hkl] at this
            injection this with this
            rw [this]
          refine ⟨k + 1, _, by go_num, rfl, by omega, ?_, ?_, hUW⟩
          · show _ = _
            rw [htk, List.flatMap_append, hs.out]
            simp [cc, itB]
          · simp only [cc_length, List.length_cons, List.length_nil]; omega
        case measure => simp [intOf]; omega
      · kernel_rfl
    · have hkm : k = m := by omega
      have hlm : l.take k = l := by rw [List.take_of_length_le (by have := HL.out; omega)]
      go_wp2_with fail
      go_ret
      refine ⟨_, rfl, ?_, hu⟩
      show _ = _
      rw [tx_list, hs.out, hlm, itemsB, HL.out]
end Go.Proofs.Ytnjmekjaingniaa

/-
  The walks of log.Batch, of the document's BatchMay and Batch.
-/
namespace Go.Proofs.Ytnjmekjaingniaa
open Go.RowKit
set_option linter.unusedVariables false
set_option linter.unusedSimpArgs false

set_option maxRecDepth 100000 in
set_option maxHeartbeats 1600000 in
theorem batch_any (A : Option Addr) (n c : Nat) (l : List It) (w : World) (hr : Rd w w.heap.size 5 A n (itcs l)) (hn : n ≤ 9223372036854775807) :
    Calls Try.prog 10 #[.slice A n c] w fun e w' => ∃ A' n' c', e = .returned (.tuple #[.slice A' n' c', .int .i64 (batE l : Int)]) ∧ OwnB w' w.heap.size A' n' c' (batB l) ∧ Up w w' := by
  have nil0 : ∀ w0, OwnB w0 w.heap.size none 0 0 [] := fun w0 => World.ownsRow_nil _ _ _ _
  have NIL := Lib.hid nil0
  clear nil0
  have HL := Lib.hid hr.ilen
  by_cases h0 : n = 0
  · have h0i : ((n : Int) == 0) = true := by rw [beq_iff_eq]; omega
    have hE : batE l = 1 := by unfold batE; rw [if_pos (by rw [← HL.out]; exact h0)]
    have hL : batB l = [] := by unfold batB; rw [hE, if_neg (by decide)]
    have HE := Lib.hid hE
    have HB := Lib.hid hL
    clear hE hL h0
    go_enter Try.func10, Try.ntmps10
    go_wp2_with fail
    go_ret2
    rw [HE.out, HB.out]
    exact ⟨none, 0, 0, rfl, NIL.out _, Up.refl _⟩
  · have h0i : ((n : Int) == 0) = false := by rw [beq_eq_false_iff_ne]; omega
    have hE0 : batE l = if bytesE l ≠ 0 then bytesE l else if 60000 < (itemsB l).length then 2 else 0 := by unfold batE; rw [if_neg (by rw [← HL.out]; exact h0)]
    have HE0 := Lib.hid hE0
    clear hE0
    go_enter Try.func10, Try.ntmps10
    go_wp2_with fail
    refine (bytes_any none 0 0 [] A n c l w Rd.empty hr (by omega) hn).mono ?_
    rintro e w2 ⟨D, dn, dc, rfl, hoD, hu2⟩
    obtain ⟨be, hbe⟩ : ∃ be, be = bytesE l := ⟨_, rfl⟩
    rw [← hbe] at HE0 ⊢
    by_cases hb0 : be = 0
    · have hby : bytesE l = 0 := by rw [← hbe]; exact hb0
      have h2k := itemsB_two l (bytesE_le hby)
      rw [bytesL_yes hby, List.nil_append] at hoD
      have hdl := hoD.rd
      have hdn := hdl.blen
      have c1 : ((be : Int) != 0) = false := by rw [bne_eq_false_iff_eq]; omega
      have c1b : ((be : Int) == 0) = true := by rw [beq_iff_eq]; omega
      have hE1 := HE0.out
      rw [if_neg (by omega)] at hE1
      have HDN := Lib.hid hdn
      clear hdn hbe HE0
      by_cases h6 : 60000 < dn
      · have h6i : (60000 : Int) < (dn : Int) := by omega
        rw [if_pos (by rw [← HDN.out]; exact h6)] at hE1
        have hL : batB l = [] := by unfold batB; rw [hE1, if_neg (by decide)]
        have HE := Lib.hid hE1
        have HB := Lib.hid hL
        clear hE1 hL hb0 hby h2k
        go_wp2_with fail
        go_ret2
        rw [HE.out, HB.out]
        exact ⟨none, 0, 0, rfl, NIL.out _, hu2⟩
      · have h6i : ¬ (60000 : Int) < (dn : Int) := by omega
        have hle : (itemsB l).length ≤ 60000 := by rw [← HDN.out]; omega
        rw [if_neg (by rw [← HDN.out]; exact h6)] at hE1
        have hL : batB l = frameB 1 (itemsB l) := by unfold batB; rw [hE1, if_pos rfl]
        have hPE : putE 1 (itemsB l).length = 0 := by unfold putE; rw [if_neg (by omega), if_neg (by omega)]
        have hPL : putL [] 1 (itemsB l) = frameB 1 (itemsB l) := by unfold putL; rw [hPE]; rfl
        have HE := Lib.hid hE1
        have HB := Lib.hid hL
        have HPE := Lib.hid hPE
        have HPL := Lib.hid hPL
        clear hE1 hL hPE hPL hb0 hby h2k hle
        go_wp2_with fail
        refine (fput_any none 0 0 [] 1 D dn dc (itemsB l) w2 Rd.empty hdl (by omega) (by omega)).mono ?_
        rintro e w3 ⟨E1, en, ec, rfl, hoE, hu3⟩
        rw [HPE.out]
        rw [HPL.out] at hoE
        have hsz := hu2.size
        go_wp2_with fail
        first | go_ret2 | go_ret
        rw [HE.out, HB.out]
        exact ⟨E1, en, ec, rfl, own_base hoE hsz, hu2.trans hu3⟩
    · have c1 : ((be : Int) != 0) = true := by rw [bne_iff_ne]; omega
      have hE1 := HE0.out
      rw [if_pos (by omega)] at hE1
      have hL : batB l = [] := by unfold batB; rw [hE1, if_neg hb0]
      have HE := Lib.hid hE1
      have HB := Lib.hid hL
      clear hE1 hL hb0 hbe HE0
      go_wp2_with fail
      go_ret2
      rw [HE.out, HB.out]
      exact ⟨none, 0, 0, rfl, NIL.out _, hu2⟩
set_option maxRecDepth 100000 in
set_option maxHeartbeats 1600000 in
theorem rbmay14_any (A : Option Addr) (n c : Nat) (l : List It) (w : World) (hr : Rd w w.heap.size 5 A n (itcs l)) (hn : n ≤ 9223372036854775807) :
    Calls Try.prog 11 #[.slice A n c] w fun e w' => e = .returned (.int .i64 (batE l : Int)) ∧ Up w w' := by
  have HL := Lib.hid hr.ilen
  by_cases h0 : n = 0
  · have h0i : ((n : Int) == 0) = true := by rw [beq_iff_eq]; omega
    have hE : batE l = 1 := by unfold batE; rw [if_pos (by rw [← HL.out]; exact h0)]
    have HE := Lib.hid hE
    clear hE h0
    go_enter Try.func11, Try.ntmps11
    go_wp2_with fail
    go_ret
    rw [HE.out]
    exact ⟨rfl, Up.refl _⟩
  · have h0i : ((n : Int) == 0) = false := by rw [beq_eq_false_iff_ne]; omega
    have hE0 : batE l = if bytesE l ≠ 0 then bytesE l else if 60000 < (itemsB l).length then 2 else 0 := by unfold batE; rw [if_neg (by rw [← HL.out]; exact h0)]
    have HE0 := Lib.hid hE0
    clear hE0
    go_enter Try.func11, Try.ntmps11
    go_wp2_with fail
    refine (may_any A n c l w hr hn).mono ?_
    rintro e w1 ⟨rfl, hu1⟩
    obtain ⟨be, hbe⟩ : ∃ be, be = bytesE l := ⟨_, rfl⟩
    rw [← hbe] at HE0 ⊢
    by_cases hb0 : be = 0
    · have hby : bytesE l = 0 := by rw [← hbe]; exact hb0
      have h2k := bytesE_le hby
      have c1 : ((be : Int) != 0) = false := by rw [bne_eq_false_iff_eq]; omega
      have hE1 := HE0.out
      rw [if_neg (by omega)] at hE1
      have HE := Lib.hid hE1
      have hn2 : n ≤ 2000 := by rw [HL.out]; exact h2k
      clear hE1 hbe HE0 hby h2k
      go_wp2_with fail
      refine (rbytes_any A n c l w1 (hr.up hu1) hn2).mono ?_
      rintro e w2 ⟨s, rfl, hs, hu2⟩
      obtain rfl : s = tx (itemsB l) := tx_of hs.out
      have hts : (tx (itemsB l)).size = (itemsB l).length := tx_size _
      by_cases h6 : 60000 < (itemsB l).length
      · have h6i : (60000 : Int) < ((itemsB l).length : Int) := by omega
        have hE2 := HE.out
        rw [if_pos h6] at hE2
        have HE2 := Lib.hid hE2
        clear hE2 h6 HE
        go_wp2_with fail
        go_ret
        rw [HE2.out]
        exact ⟨rfl, hu1.trans hu2⟩
      · have h6i : ¬ (60000 : Int) < ((itemsB l).length : Int) := by omega
        have hE2 := HE.out
        rw [if_neg h6] at hE2
        have HE2 := Lib.hid hE2
        clear hE2 h6 HE
        go_wp2_with fail
        go_ret
        rw [HE2.out]
        exact ⟨rfl, hu1.trans hu2⟩
    · have c1 : ((be : Int) != 0) = true := by rw [bne_iff_ne]; omega
      have hE1 := HE0.out
      rw [if_pos (by omega)] at hE1
      have HE := Lib.hid hE1
      clear hE1 hb0 hbe HE0
      go_wp2_with fail
      go_ret
      rw [HE.out]
      exact ⟨rfl, hu1⟩
set_option maxRecDepth 100000 in
theorem rbatch_any (A : Option Addr) (n c : Nat) (l : List It) (w : World) (hr : Rd w w.heap.size 5 A n (itcs l)) (he : batE l = 0) :
    Calls Try.prog 17 #[.slice A n c] w fun e w' => e = .returned (.string (tx (batB l))) ∧ Up w w' := by
  obtain ⟨k1, k2, k3, k4, -⟩ := batE_ok he
  have hL : batB l = frameB 1 (itemsB l) := by unfold batB; rw [he, if_pos rfl]
  have HB := Lib.hid hL
  have hn : n ≤ 2000 := by have := hr.ilen; omega
  clear hL
  go_enter Try.func17, Try.ntmps17
  go_wp2_with fail
  refine (rbytes_any A n c l w hr hn).mono ?_
  rintro e w1 ⟨s, rfl, hs, hu1⟩
  obtain rfl : s = tx (itemsB l) := tx_of hs.out
  go_wp2_with fail
  refine (rframe_any 1 (itemsB l) w1 (by omega) k3).mono ?_
  rintro e w2 ⟨rfl, hu2⟩
  go_wp2_with fail
  go_ret
  rw [HB.out]
  exact ⟨rfl, hu1.trans hu2⟩
end Go.Proofs.Ytnjmekjaingniaa

/-
  Rows of items.
-/
namespace Go.Proofs.Ytnjmekjaingniaa
open Go.RowKit
set_option linter.unusedVariables false
set_option linter.unusedSimpArgs false

/-- a row of items and what it holds -/
structure Rw where
  A : Option Addr
  n : Nat
  c : Nat
  l : List It
def Rw.v (r : Rw) : Value := .slice r.A r.n r.c
def rwv (rs : List Rw) : List Value := rs.map Rw.v
def rwl (rs : List Rw) : List (List It) := rs.map Rw.l
/-- each of the rows reads so -/
def RwOk (w : World) (rs : List Rw) : Prop := ∀ r ∈ rs, Rd w w.heap.size 5 r.A r.n (itcs r.l) ∧ r.n ≤ r.c
theorem RwOk.nil (w : World) : RwOk w [] := fun r hr => by cases hr
theorem RwOk.up {w w' : World} {rs : List Rw} (h : RwOk w rs) (hu : Up w w') : RwOk w' rs := fun r hr => ⟨(h r hr).1.up hu, (h r hr).2⟩
theorem RwOk.snoc {w : World} {rs : List Rw} (h : RwOk w rs) {A : Option Addr} {n c : Nat} {l : List It} (hr : Rd w w.heap.size 5 A n (itcs l)) (hc : n ≤ c) : RwOk w (rs ++ [⟨A, n, c, l⟩]) := fun r hr' => by
  rcases List.mem_append.1 hr' with h1 | h1
  · exact h r h1
  · simp at h1; subst h1; exact ⟨hr, hc⟩
end Go.Proofs.Ytnjmekjaingniaa

/-
  Rows of items that are rows of the call's own.
-/
namespace Go.Proofs.Ytnjmekjaingniaa
open Go.RowKit
set_option linter.unusedVariables false
set_option linter.unusedSimpArgs false

/-- each of the rows is a row of its own -/
def RwOwn (w : World) (base : Nat) (rs : List Rw) : Prop := ∀ r ∈ rs, OwnI w base r.A r.n r.c r.l
theorem RwOwn.nil (w : World) (base : Nat) : RwOwn w base [] := fun r hr => by cases hr
theorem RwOwn.ok {w : World} {base : Nat} {rs : List Rw} (h : RwOwn w base rs) : RwOk w rs := fun r hr => ⟨Rd.own (h r hr), own_cap (h r hr)⟩
theorem RwOwn.snoc {w : World} {base : Nat} {rs : List Rw} (h : RwOwn w base rs) {A : Option Addr} {n c : Nat} {l : List It} (hr : OwnI w base A n c l) : RwOwn w base (rs ++ [⟨A, n, c, l⟩]) := fun r hr' => by
  rcases List.mem_append.1 hr' with h1 | h1
  · exact h r h1
  · simp at h1; subst h1; exact hr
theorem RwOwn.up {w w' : World} {base : Nat} {rs : List Rw} (h : RwOwn w base rs) (hu : Up w w') : RwOwn w' base rs := fun r hr => own_up (h r hr) hu
theorem RwOwn.base {w : World} {base base' : Nat} {rs : List Rw} (h : RwOwn w base rs) (hb : base' ≤ base) : RwOwn w base' rs := fun r hr => own_base (h r hr) hb
theorem rwv_len (rs : List Rw) : (rwv rs).length = rs.length := by simp [rwv]
theorem rwl_len (rs : List Rw) : (rwl rs).length = rs.length := by simp [rwl]
theorem rwv_snoc (rs : List Rw) (r : Rw) : rwv (rs ++ [r]) = rwv rs ++ [r.v] := by simp [rwv]
theorem rwl_snoc (rs : List Rw) (r : Rw) : rwl (rs ++ [r]) = rwl rs ++ [r.l] := by simp [rwl]
theorem rwv_one (rs : List Rw) : ∀ u ∈ rwv rs, u.oneCell' = true := fun u hu => by
  obtain ⟨r, _, rfl⟩ := List.mem_map.1 hu
  rfl
theorem Rd.rlen {w : World} {B n : Nat} {A : Option Addr} {rs : List Rw} (h : Rd w B 1 A n (rwv rs)) : n = rs.length := by have := h.1; rw [rwv_len, Nat.mul_one] at this; exact this.symm
/-- the value of row k -/
theorem Rd.row_at {w : World} {B n : Nat} {A : Option Addr} {rs : List Rw} (h : Rd w B 1 A n (rwv rs)) {k : Nat} (hk : k < n) : ∃ b o r, A = some ⟨b, o, none⟩ ∧ b < B ∧ rs[k]? = some r ∧ w.cell? ⟨b, o + k, none⟩ = some (.slice r.A r.n r.c) := by
  obtain ⟨b, o, rfl, hb, hc⟩ := h.2 (by omega)
  have hl := h.rlen
  have hk2 : k < rs.length := by omega
  exact ⟨b, o, rs[k], rfl, hb, List.getElem?_eq_getElem hk2, hc k _ (by simp [rwv, hk2, Rw.v])⟩
end Go.Proofs.Ytnjmekjaingniaa

/-
  The walk of clepsydraref1.Unframe.
-/
namespace Go.Proofs.Ytnjmekjaingniaa
open Go.RowKit
set_option linter.unusedVariables false
set_option linter.unusedSimpArgs false

theorem tx_cut (l : List UInt8) (a b : Nat) : (tx l).extract a b = tx ((l.drop a).take (b - a)) := tx_of (by
  rw [ByteArray.data_extract, Array.toList_extract, List.extract_eq_take_drop, tx_list])
/-- what Unframe comes to: shut to the walk -/
def UnPost (r : List UInt8) (k : Nat) (w : World) (e : Ending) (w' : World) : Prop :=
  e = .returned (.tuple #[.int .i64 ((takeR r).2.1 : Int), .string (tx (takeR r).2.2.1), .int .i64 (if (takeR r).1 = 0 then (k : Int) + (takeR r).2.2.2 else 0), .int .i64 ((takeR r).1 : Int)]) ∧ Up w w'
theorem UnPost.bad {r : List UInt8} {k E : Nat} {w w' : World} (h : takeR r = (E, 0, [], 0)) (hE : E ≠ 0) (hu : Up w w') : UnPost r k w (.returned (.tuple #[.int .i64 0, .string (ByteArray.mk #[]), .int .i64 0, .int .i64 (E : Int)])) w' := by
  unfold UnPost
  rw [h, if_neg hE]
  exact ⟨rfl, hu⟩
set_option maxRecDepth 100000 in
set_option maxHeartbeats 800000 in
theorem unframe_core (l : List UInt8) (k : Nat) (w : World) (hl : l.length ≤ 549755813888) (hk : k ≤ l.length) :
    Calls Try.prog 40 #[.string (tx l), .int .i64 (k : Int)] w (UnPost (l.drop k) k w) := by
  have hz : (tx l).size = l.length := tx_size l
  have hrl : (l.drop k).length = l.length - k := List.length_drop
  have hcut := tx_cut l
  generalize hn : l.length = n at *
  generalize hr : l.drop k = r at *
  have HR := Lib.hid hr
  have HL := Lib.hid hrl
  have HN := Lib.hid hn
  clear hr hrl hn
  have g0 : decide ((k : Int) < 0) = false := by simp
  have g1 : decide ((n : Int) < (k : Int)) = false := by simp; omega
  have g2 : ¬ (n : Int) < (k : Int) := by omega
  by_cases h8 : n - k < 8
  · have hv : takeR r = (4, 0, [], 0) := by unfold takeR; rw [if_pos (by rw [HL.out]; exact h8)]
    have HV := Lib.hid hv
    clear hv
    have g3 : (n : Int) - k < 8 := by omega
    go_enter Try.func40, Try.ntmps40
    go_wp2_with fail
    refine bodyPost_ret (v := .tuple #[.int .i64 0, .string (ByteArray.mk #[]), .int .i64 0, .int .i64 4]) (by simp [results, Try.results40, go_sem]) rfl ?_
    exact .bad (E := 4) HV.out (by omega) (Up.refl _)
  · have g3 : ¬ (n : Int) - k < 8 := by omega
    have g4 : decide ((n : Int) - k < 8) = false := by simp; omega
    have hx8 : (tx l).extract k (k + 8) = tx (r.take 8) := by rw [hcut, HR.out, Nat.add_sub_cancel_left]
    have q1 : (k : Int) + 8 ≤ (n : Int) := by omega
    have q2 : ((k : Int) + 8).toNat = k + 8 := by omega
    have q3 : (k : Int) ≤ (k : Int) + 8 := by omega
    have HX := Lib.hid hx8
    clear hx8
    by_cases hE : openE (r.take 8) = 0
    · have hL : openL (r.take 8) = r.take 4 := by
        have hl8 : (r.take 8).length - 4 = 4 := by rw [List.length_take, HL.out]; omega
        unfold openL; rw [if_pos hE, hl8, List.take_take]; rfl
      have hb0 : (r.getD 0 0).toNat < 256 := (r.getD 0 0).toNat_lt
      have hb1 : (r.getD 1 0).toNat < 256 := (r.getD 1 0).toNat_lt
      have hb2 : (r.getD 2 0).toNat < 256 := (r.getD 2 0).toNat_lt
      have hb3 : (r.getD 3 0).toNat < 256 := (r.getD 3 0).toNat_lt
      have hT : takeR r = if (r.getD 0 0).toNat < 1 ∨ 100 < (r.getD 0 0).toNat ∨ 60000 < headN r then (3, 0, [], 0)
          else if r.length - 8 < headN r + 4 then (4, 0, [], 0)
          else if openE ((r.drop 8).take (headN r + 4)) ≠ 0 then (openE ((r.drop 8).take (headN r + 4)), 0, [], 0)
          else (0, (r.getD 0 0).toNat, (r.drop 8).take (headN r), headN r + 12) := by
        conv => lhs; unfold takeR
        rw [if_neg (by rw [HL.out]; exact h8), if_neg (by simpa using hE)]
      have hh : headN r = (r.getD 1 0).toNat * 65536 + (r.getD 2 0).toNat * 256 + (r.getD 3 0).toNat := rfl
      rw [hh, HL.out] at hT
      have hl8 : (r.drop 8).length = n - k - 8 := by rw [List.length_drop, HL.out]
      have hd8 : ∀ N, (tx l).extract (k + 8) (k + 12 + N) = tx ((r.drop 8).take (N + 4)) := fun N => by
        rw [hcut, ← HR.out, List.drop_drop, show k + 12 + N - (k + 8) = N + 4 by omega]
      have ht4 : (tx (r.take 4)).size = 4 := by rw [tx_size, List.length_take, HL.out]; omega
      have hbs : ∀ j, j < 4 → ∀ h, (tx (r.take 4))[j]'h = r.getD j 0 := fun j hj h => by
        rw [getD_str (tx_list _) h, take_getD r hj]
      have HE := Lib.hid hE
      have HO := Lib.hid hL
      have HT := Lib.hid hT
      have HL8 := Lib.hid hl8
      have HD8 := Lib.hid hd8
      have HBS := Lib.hid hbs
      clear hL hE hT hh hl8 hd8 hcut hbs
      go_enter Try.func40, Try.ntmps40
      go_wp2_with fail
      rw [HX.out]
      refine (ropen_any (r.take 8) w (by rw [List.length_take]; omega)).mono ?_
      rintro e w1 ⟨rfl, hu1⟩
      rw [HO.out, HE.out]
      generalize r.take 4 = r4 at *
      have i0 := HBS.out 0 (by omega) (by omega)
      have i1 := HBS.out 1 (by omega) (by omega)
      have i2 := HBS.out 2 (by omega) (by omega)
      have i3 := HBS.out 3 (by omega) (by omega)
      generalize r.getD 0 0 = y0 at *
      generalize r.getD 1 0 = y1 at *
      generalize r.getD 2 0 = y2 at *
      generalize r.getD 3 0 = y3 at *
      go_wp2_with fail
      generalize hy0 : y0.toNat = x0 at *
      generalize hy1 : y1.toNat = x1 at *
      generalize hy2 : y2.toNat = x2 at *
      generalize hy3 : y3.toNat = x3 at *
      have v0 : IntKind.i64.wrap (x0 : Int) = x0 := IntWalk.i64_in _ (by omega)
      have v1 : IntKind.i64.wrap (x1 : Int) = x1 := IntWalk.i64_in _ (by omega)
      have v2 : IntKind.i64.wrap (x2 : Int) = x2 := IntWalk.i64_in _ (by omega)
      have v3 : IntKind.i64.wrap (x3 : Int) = x3 := IntWalk.i64_in _ (by omega)
      have v4 : IntKind.i64.wrap ((x1 : Int) * 65536) = (x1 : Int) * 65536 := IntWalk.i64_in _ (by omega)
      have v5 : IntKind.i64.wrap ((x2 : Int) * 256) = (x2 : Int) * 256 := IntWalk.i64_in _ (by omega)
      have v6 := or_head x1 x2 x3 hb1 hb2 hb3
      have hNb : x1 * 65536 + x2 * 256 + x3 < 16777216 := by omega
      generalize hN : x1 * 65536 + x2 * 256 + x3 = N at v6 hNb
      have hT := HT.out
      rw [hN] at hT
      have HT2 := Lib.hid hT
      have HD := Lib.hid (HD8.out N)
      clear hN hT HT HD8 HBS
      apply Rg.region_up (fun W => Up w1 W) (by kernel_rfl) (by kernel_rfl) (fun w1 h => h)
      · intro QN hQN
        iterate 14 (apply Rg.RK.ok; (· intro vs w1 hS; go_simp; with_reducible rfl); (· rfl); simp only [Act.put, List.setIfInBounds_toArray, List.set_cons_zero, List.set_cons_succ, Nat.reduceAdd])
        apply Rg.RK.fin []
        intro vs w1 hK hS _
        refine hQN.out _ _ ?_
        clear hQN
        have hu2 := hu1.trans (keeps_up hK)
        clear v1 v2 v3 v4 v5 v6 i1 i2 i3 hy1 hy2 hy3 hS hK
        by_cases hbad : x0 < 1 ∨ 100 < x0 ∨ 60000 < N
        · have hv : takeR r = (3, 0, [], 0) := by rw [HT2.out, if_pos hbad]
          have hpe : putE (x0 : Int) N ≠ 0 := by unfold putE; split; simp; split; simp; omega
          have HV := Lib.hid hv
          clear hv
          go_wp2_with fail
          refine (frameok_any (x0 : Int) N _ (by omega)).mono ?_
          rintro e w2 ⟨rfl, rfl⟩
          generalize putE (x0 : Int) N = E3 at *
          have hE3 : ¬ (E3 : Int) = 0 := by omega
          go_wp2_with fail
          refine bodyPost_ret (v := .tuple #[.int .i64 0, .string (ByteArray.mk #[]), .int .i64 0, .int .i64 3]) (by simp [results, Try.results40, go_sem]) rfl ?_
          exact .bad (E := 3) HV.out (by omega) hu2
        · have hpe : putE (x0 : Int) N = 0 := by unfold putE; rw [if_neg (by omega), if_neg (by omega)]
          have HP := Lib.hid hpe
          have hN6 : N ≤ 60000 := by omega
          clear hpe
          by_cases hx4 : n - k - 8 < N + 4
          · have hv : takeR r = (4, 0, [], 0) := by rw [HT2.out, if_neg hbad, if_pos hx4]
            have HV := Lib.hid hv
            clear hv
            have g6 : (n : Int) - k - 8 < N + 4 := by omega
            go_wp2_with fail
            refine (frameok_any (x0 : Int) N _ (by omega)).mono ?_
            rintro e w2 ⟨rfl, rfl⟩
            rw [HP.out]
            go_wp2_with fail
            refine bodyPost_ret (v := .tuple #[.int .i64 0, .string (ByteArray.mk #[]), .int .i64 0, .int .i64 4]) (by simp [results, Try.results40, go_sem]) rfl ?_
            exact .bad (E := 4) HV.out (by omega) hu2
          · have g6 : ¬ (n : Int) - k - 8 < N + 4 := by omega
            have q4 : ((k : Int) + 12 + N).toNat = k + 12 + N := by omega
            have q5 : (k : Int) + 8 ≤ (k : Int) + 12 + N := by omega
            have q6 : (k : Int) + 12 + N ≤ (n : Int) := by omega
            have q7 : (0 : Int) ≤ (k : Int) + 8 := by omega
            have hlen5 : ((r.drop 8).take (N + 4)).length = N + 4 := by rw [List.length_take, HL8.out]; omega
            by_cases hx5 : openE ((r.drop 8).take (N + 4)) = 0
            · have hv : takeR r = (0, x0, (r.drop 8).take N, N + 12) := by rw [HT2.out, if_neg hbad, if_neg hx4, if_neg (by simpa using hx5)]
              have hL5 : openL ((r.drop 8).take (N + 4)) = (r.drop 8).take N := by
                unfold openL; rw [if_pos hx5, hlen5, List.take_take, Nat.min_eq_left (by omega)]; simp
              have HV := Lib.hid hv
              have H5 := Lib.hid hx5
              have HL5 := Lib.hid hL5
              have H6 := Lib.hid hlen5
              clear hv hx5 hL5 hlen5
              go_wp2_with fail
              refine (frameok_any (x0 : Int) N _ (by omega)).mono ?_
              rintro e w2 ⟨rfl, rfl⟩
              rw [HP.out]
              go_wp2_with fail
              rw [HD.out]
              refine (ropen_any _ w1 (by rw [H6.out]; omega)).mono ?_
              rintro e w3 ⟨rfl, hu3⟩
              rw [HL5.out, H5.out]
              go_wp2_with fail
              refine bodyPost_ret (v := .tuple #[.int .i64 (x0 : Int), .string (tx ((r.drop 8).take N)), .int .i64 ((k : Int) + 12 + N), .int .i64 0]) (by simp [results, Try.results40, go_sem]) rfl ?_
              unfold UnPost
              rw [HV.out]
              have e12 : (k : Int) + 12 + N = (k : Int) + ((N + 12 : Nat) : Int) := by omega
              rw [e12]
              exact ⟨rfl, hu2.trans hu3⟩
            · have hv : takeR r = (openE ((r.drop 8).take (N + 4)), 0, [], 0) := by rw [HT2.out, if_neg hbad, if_neg hx4, if_pos hx5]
              have HV := Lib.hid hv
              have H6 := Lib.hid hlen5
              clear hv hlen5
              go_wp2_with fail
              refine (frameok_any (x0 : Int) N _ (by omega)).mono ?_
              rintro e w2 ⟨rfl, rfl⟩
              rw [HP.out]
              go_wp2_with fail
              rw [HD.out]
              refine (ropen_any _ w1 (by rw [H6.out]; omega)).mono ?_
              rintro e w3 ⟨rfl, hu3⟩
              generalize openE ((r.drop 8).take (N + 4)) = E5 at *
              have hE5 : ¬ (E5 : Int) = 0 := by omega
              go_wp2_with fail
              refine bodyPost_ret (v := .tuple #[.int .i64 0, .string (ByteArray.mk #[]), .int .i64 0, .int .i64 (E5 : Int)]) (by simp [results, Try.results40, go_sem]) rfl ?_
              exact .bad HV.out hx5 (hu2.trans hu3)
      · kernel_rfl
    · have hv : takeR r = (openE (r.take 8), 0, [], 0) := by unfold takeR; rw [if_neg (by rw [HL.out]; exact h8), if_pos hE]
      have HV := Lib.hid hv
      clear hv hcut
      go_enter Try.func40, Try.ntmps40
      go_wp2_with fail
      rw [HX.out]
      refine (ropen_any (r.take 8) w (by rw [List.length_take]; omega)).mono ?_
      rintro e w1 ⟨rfl, hu1⟩
      generalize openE (r.take 8) = E5 at *
      have hE5 : ¬ (E5 : Int) = 0 := by omega
      go_wp2_with fail
      refine bodyPost_ret (v := .tuple #[.int .i64 0, .string (ByteArray.mk #[]), .int .i64 0, .int .i64 (E5 : Int)]) (by simp [results, Try.results40, go_sem]) rfl ?_
      exact .bad HV.out hE hu1
set_option maxRecDepth 100000 in
set_option maxHeartbeats 800000 in
theorem unframe_any (l : List UInt8) (at_ : Int) (w : World) (hl : l.length ≤ 549755813888) :
    Calls Try.prog 40 #[.string (tx l), .int .i64 at_] w fun e w' => e = .returned (.tuple #[.int .i64 ((takeF l at_).2.1 : Int), .string (tx (takeF l at_).2.2.1), .int .i64 (takeF l at_).2.2.2, .int .i64 ((takeF l at_).1 : Int)]) ∧ Up w w' := by
  by_cases h0 : at_ < 0 ∨ (l.length : Int) < at_
  · have hv : takeF l at_ = (1, 0, [], 0) := by unfold takeF; rw [if_pos h0]
    have HV := Lib.hid hv
    have hz : (tx l).size = l.length := tx_size l
    clear hv
    rcases h0 with h0 | h0
    · go_enter Try.func40, Try.ntmps40
      go_wp2_with fail
      refine bodyPost_ret (v := .tuple #[.int .i64 0, .string (ByteArray.mk #[]), .int .i64 0, .int .i64 1]) (by simp [results, Try.results40, go_sem]) rfl ?_
      rw [HV.out]
      exact ⟨rfl, Up.refl _⟩
    · have h1 : ¬ at_ < 0 := by omega
      have hd1 : decide (at_ < 0) = false := by simp; omega
      go_enter Try.func40, Try.ntmps40
      go_wp2_with fail
      refine bodyPost_ret (v := .tuple #[.int .i64 0, .string (ByteArray.mk #[]), .int .i64 0, .int .i64 1]) (by simp [results, Try.results40, go_sem]) rfl ?_
      rw [HV.out]
      exact ⟨rfl, Up.refl _⟩
  · obtain ⟨k, rfl⟩ := Int.eq_ofNat_of_zero_le (show 0 ≤ at_ by omega)
    have hv : takeF l (k : Int) = ((takeR (l.drop k)).1, (takeR (l.drop k)).2.1, (takeR (l.drop k)).2.2.1, if (takeR (l.drop k)).1 = 0 then (k : Int) + (takeR (l.drop k)).2.2.2 else 0) := by
      unfold takeF; rw [if_neg h0]; rfl
    rw [hv]
    exact unframe_core l k w hl (by omega)
end Go.Proofs.Ytnjmekjaingniaa

/-
  The walks of clepsydraref1.Unsign and clepsydraref5.Read.
-/
namespace Go.Proofs.Ytnjmekjaingniaa
open Go.RowKit
set_option linter.unusedVariables false
set_option linter.unusedSimpArgs false

theorem u64_and_one (a : Nat) (ha : a < 18446744073709551616) : bits .and .u64 (a : Int) 1 = ((a % 2 : Nat) : Int) := by
  show IntKind.u64.wrap ((BitVec.ofInt 64 (a : Int) &&& BitVec.ofInt 64 1).toNat : Int) = _
  rw [BitVec.toNat_and, BitVec.ofInt_natCast, BitVec.toNat_ofNat, Nat.mod_eq_of_lt (by omega), IntKind.wrap_u64]
  have : (BitVec.ofInt 64 1).toNat = 1 := rfl
  rw [this, Nat.and_one_is_mod]; omega

set_option maxRecDepth 100000 in
set_option maxHeartbeats 800000 in
theorem runsign_any (z : Nat) (w : World) (hz : z < 18446744073709551616) :
    Calls Try.prog 70 #[.int .u64 (z : Int)] w fun e w' => e = .returned (.int .i64 (unsignZ z)) ∧ w = w' := by
  have ha := u64_and_one z hz
  by_cases h1 : z % 2 = 1
  · rw [h1] at ha
    have hv : unsignZ z = -((z : Int) / 2) - 1 := by unfold unsignZ; split <;> omega
    have HV := Lib.hid hv
    clear hv
    go_enter Try.func70, Try.ntmps70
    go_wp2
    go_ret
    rw [HV.out]
    exact ⟨rfl, rfl⟩
  · have h0 : z % 2 = 0 := by omega
    rw [h0] at ha
    have hv : unsignZ z = (z : Int) / 2 := by unfold unsignZ; split <;> omega
    have HV := Lib.hid hv
    clear hv
    go_enter Try.func70, Try.ntmps70
    go_wp2
    go_ret
    rw [HV.out]
    exact ⟨rfl, rfl⟩

/-- five cells at the head of a block, other than what was there before -/
def At5 (g : Nat) (v0 v1 v2 v3 v4 : Value) (W : World) : Prop := W.heap[g]? = some (.cells #[v0, v1, v2, v3, v4] 25 (0, 0))
def New5 (B : Nat) (v : Value) (W : World) : Prop := ∃ g, v = .pointer (some ⟨g, 0, none⟩) ∧ B ≤ g ∧ At5 g (.int .i64 0) (.int .i64 0) (.int .u64 0) (.int .u64 0) (.int .i64 0) W
theorem At5.sta {g : Nat} {v0 v1 v2 v3 v4 : Value} {w w' : World} {Y : Nat → Prop} (h : At5 g v0 v1 v2 v3 v4 w) (hs : Rg.Sta Y w w') (hy : Y g) : At5 g v0 v1 v2 v3 v4 w' :=
  (hs.block g (Array.getElem?_eq_some_iff.1 h).1 hy).trans h
theorem New5.sta {B : Nat} {v : Value} {w w' : World} {Y : Nat → Prop} (h : New5 B v w) (hs : Rg.Sta (fun g => Y g ∨ Rg.ob v g) w w') : New5 B v w' := by
  obtain ⟨g, rfl, hb, hh⟩ := h
  exact ⟨g, rfl, hb, hh.sta hs (.inr rfl)⟩
/-- the pointer leads to a new block that holds these numbers -/
def It5 (B x0 x1 : Nat) (v : Value) (W : World) : Prop := ∃ g, v = .pointer (some ⟨g, 0, none⟩) ∧ B ≤ g ∧ At5 g (.int .i64 (x0 : Int)) (.int .i64 (x1 : Int)) (.int .u64 0) (.int .u64 0) (.int .i64 0) W
theorem It5.sta {B x0 x1 : Nat} {v : Value} {w w' : World} {Y : Nat → Prop} (h : It5 B x0 x1 v w) (hs : Rg.Sta (fun g => Y g ∨ Rg.ob v g) w w') : It5 B x0 x1 v w' := by
  obtain ⟨g, rfl, hb, hh⟩ := h
  exact ⟨g, rfl, hb, hh.sta hs (.inr rfl)⟩
theorem cell_up {w w' : World} (hu : Up w w') {g o : Nat} {v : Value} (h : w.cell? ⟨g, o, none⟩ = some v) : w'.cell? ⟨g, o, none⟩ = some v :=
  (World.cell?_of_block (hu.block g (World.block_lt_of_cell? w ⟨g, o, none⟩ h))).trans h
/-- blocks that were written are newer than w -/
theorem keeps_fresh {w wq w2 : World} {gx : Nat} (hu : Up w wq) (hg : w.heap.size ≤ gx) (hK : Rg.Keeps (fun g => g = gx) wq.drew w2) : Up w w2 :=
  ⟨hK.os.trans hu.os, hK.tape.trans hu.tape, hK.output.trans hu.output, Nat.le_trans hu.size hK.size, fun k hk => (hK.block k (Nat.lt_of_lt_of_le hk hu.size) (by show ¬ k = gx; omega)).trans (hu.block k hk)⟩
theorem own_keeps {wq w2 : World} {base gx : Nat} {e : TypeId} {sz n : Nat} {v : Value} {xs : List Value} (h : wq.ownsRow base e sz v n xs) (hg : ∀ g, Rg.ob v g → g ≠ gx) (hK : Rg.Keeps (fun g => g = gx) wq.drew w2) : w2.ownsRow base e sz v n xs :=
  row_sta (Y := fun _ => False) h ⟨hK.size, fun g hl hy => hK.block g hl (hg g (hy.elim False.elim id))⟩
theorem At5.setc2 {g : Nat} {v0 v1 v2 v3 v4 u : Value} {W : World} (h : At5 g v0 v1 v2 v3 v4 W) : At5 g v0 v1 u v3 v4 (W.setCell ⟨g, 2, none⟩ u) := setc_heap W g 2 u _ _ h
theorem At5.setc3 {g : Nat} {v0 v1 v2 v3 v4 u : Value} {W : World} (h : At5 g v0 v1 v2 v3 v4 W) : At5 g v0 v1 v2 u v4 (W.setCell ⟨g, 3, none⟩ u) := setc_heap W g 3 u _ _ h
theorem At5.setc4 {g : Nat} {v0 v1 v2 v3 v4 u : Value} {W : World} (h : At5 g v0 v1 v2 v3 v4 W) : At5 g v0 v1 v2 v3 u (W.setCell ⟨g, 4, none⟩ u) := setc_heap W g 4 u _ _ h
theorem ext_tx {s : ByteArray} {l : List UInt8} (hs : s.data.toList = l) (a : Nat) : (s.extract a s.size).data.toList = l.drop a := by
  subst hs
  rw [ByteArray.data_extract, Array.toList_extract, List.extract_eq_take_drop]
  exact List.take_of_length_le (by rw [List.length_drop, Array.length_toList]; exact Nat.le_refl _)
/-- the item that bytes at a place begin with -/
theorem oneL_at (l : List UInt8) (p : Nat) (h : ¬ l.length - p < 2) : oneL (l.drop p) = if (takesL 3 [] (l.drop (p + 2))).1 = 0 then (0, mkIt (l.getD p 0).toNat (l.getD (p + 1) 0).toNat ((takesL 3 [] (l.drop (p + 2))).2.1.getD 0 0) ((takesL 3 [] (l.drop (p + 2))).2.1.getD 1 0) ((takesL 3 [] (l.drop (p + 2))).2.1.getD 2 0), (takesL 3 [] (l.drop (p + 2))).2.2)
    else ((takesL 3 [] (l.drop (p + 2))).1, noIt, []) := by
  conv => lhs; unfold oneL
  rw [if_neg (by rw [List.length_drop]; exact h), List.drop_drop]
  simp only [List.getD_eq_getElem?_getD, List.getElem?_drop, Nat.add_zero]

/-- what Read comes to -/
def RdPost (t : Nat × List It) (w : World) (e : Ending) (w' : World) : Prop := ∃ A' n' c', e = .returned (.tuple #[.slice A' n' c', .int .i64 (t.1 : Int)]) ∧ OwnI w' w.heap.size A' n' c' t.2 ∧ Up w w'

set_option maxRecDepth 100000 in
set_option maxHeartbeats 1600000 in
theorem rread_any (l : List UInt8) (w : World) (hl : l.length ≤ 1099511627776) :
    Calls Try.prog 41 #[.string (tx l)] w (RdPost (readL l) w) := by
  have nil0 : ∀ w0, OwnI w0 w.heap.size none 0 0 [] := fun w0 => World.ownsRow_nil _ _ _ _
  have NIL := Lib.hid nil0
  clear nil0
  have hts := tx_list l
  have hsz := tx_size l
  have HT0 : Hid (∀ W, Calls Try.prog 69 #[.string (tx l)] W fun e w' => e = .returned (.tuple #[.int .u64 ((takeL l).1 : Int), .int .i64 ((takeL l).2.1 : Int), .int .i64 ((takeL l).2.2 : Int)]) ∧ W = w') := fun W => rtake_any (tx l) l W hts (by omega)
  by_cases he : (takeL l).2.2 = 0
  · have hok := takeL_ok he
    by_cases hbig : 2000 < (takeL l).1
    · have hv : readL l = (2, []) := by unfold readL; rw [if_neg (by simpa using he), if_pos hbig]
      have HV := Lib.hid hv
      clear hv hts hsz
      go_enter Try.func41, Try.ntmps41
      go_wp2_with fail
      refine (HT0.out w).mono ?_
      rintro e w1 ⟨rfl, rfl⟩
      rw [he]
      generalize (takeL l).1 = tn at *
      clear he
      go_wp2_with fail
      go_ret2
      rw [HV.out]
      exact ⟨none, 0, 0, rfl, NIL.out _, Up.refl _⟩
    · have hv : readL l = if (itsL (takeL l).1 [] (l.drop (takeL l).2.1)).1 ≠ 0 then ((itsL (takeL l).1 [] (l.drop (takeL l).2.1)).1, [])
          else if (itsL (takeL l).1 [] (l.drop (takeL l).2.1)).2.2.length = 0 ∧ (itsL (takeL l).1 [] (l.drop (takeL l).2.1)).2.1.all okB = true then (0, (itsL (takeL l).1 [] (l.drop (takeL l).2.1)).2.1) else (3, []) := by
        conv => lhs; unfold readL
        rw [if_neg (by simpa using he), if_neg hbig]
      have HV := Lib.hid hv
      clear hv
      have htl : (takeL l).2.1 ≤ l.length := hok.2.2.1
      have HS := Lib.hid hts
      have HZ := Lib.hid hsz
      have hzz : (tx l).size ≤ 1099511627776 := by omega
      go_enter Try.func41, Try.ntmps41
      go_wp2_with fail
      refine (HT0.out w).mono ?_
      rintro e w1 ⟨rfl, rfl⟩
      rw [he]
      generalize hl2 : l.drop (takeL l).2.1 = l2 at *
      generalize (takeL l).1 = tn at *
      generalize (takeL l).2.1 = ts at *
      have HL2 := Lib.hid hl2
      clear he hl2
      obtain ⟨h1, h2', h3, h4⟩ := hok
      have t3 : (tn : Int) ≤ 2000 := by omega
      clear hts HT0
      generalize hsl : l.length = Z at *
      have HLZ := Lib.hid hsl
      clear hsl
      go_wp2_with fail
      go_loopw [5, 7, 8, 9] (fun av v bv i wr => ∃ (k p : Nat) (R : Option Addr) (m d : Nat) (acc : List It), i = .int .u64 (k : Int) ∧ av = .int .i64 (p : Int) ∧ v = .slice R m d ∧ bv = .bool (!(acc.all okB)) ∧ k ≤ tn ∧ p ≤ Z ∧ m = k ∧
          OwnI wr w.heap.size R m d acc ∧ Hid (itsL (tn - k) acc (l.drop p) = itsL tn [] l2) ∧ Up w wr) (fun _ _ _ i _ => tn - (intOf i).toNat)
      case atStart => exact ⟨0, ts, none, 0, 0, [], rfl, rfl, rfl, rfl, by omega, htl, rfl, NIL.out _, by rw [HL2.out]; rfl, Up.refl _⟩
      case round =>
        obtain ⟨k, p, R, m, d, acc, rfl, rfl, rfl, rfl, hk, hp, hmk, hown, HT, hu⟩ := hrel
        subst hmk
        generalize hbd : acc.all okB = bb at *
        have HBD := Lib.hid hbd
        clear hbd
        by_cases hlt : m < tn
        · by_cases hs2 : Z - p < 2
          · have hone : oneL (l.drop p) = (4, noIt, []) := by unfold oneL; rw [if_pos (by rw [List.length_drop, HLZ.out]; omega)]
            have hst : itsL tn [] l2 = (4, [], []) := by
              rw [← HT.out, show tn - m = (tn - (m + 1)) + 1 by omega]
              unfold itsL
              rw [hone, if_neg (by decide)]
            have hv : readL l = (4, []) := by rw [HV.out, hst, if_pos (by decide)]
            have HR := Lib.hid hv
            clear hv hst hone
            have g1 : (Z : Int) - p < 2 := by omega
            go_wp2_with fail
            go_ret2
            rw [HR.out]
            exact ⟨none, 0, 0, rfl, NIL.out _, hu⟩
          · have hg0 := getD_str HS.out (k := p) (by omega)
            have hg1 := getD_str HS.out (k := p + 1) (by omega)
            have hb0 := (l.getD p 0).toNat_lt
            have hb1 := (l.getD (p + 1) 0).toNat_lt
            have hone := oneL_at l p (by have := HLZ.out; omega)
            generalize hx0 : l.getD p 0 = b0 at *
            generalize hx1 : l.getD (p + 1) 0 = b1 at *
            have HX0 := Lib.hid hx0
            have HX1 := Lib.hid hx1
            have HO := Lib.hid hone
            clear hx0 hx1 hone
            have g1 : ¬ (Z : Int) - p < 2 := by omega
            have g2 : decide ((Z : Int) - p < 2) = false := by simp; omega
            have g3 : decide ((m : Int) < (tn : Int)) = true := by simp; omega
            have q1 : (p : Int) < (tx l).size := by omega
            have q2 : (p : Int) + 1 < (tx l).size := by omega
            have q3 : p < (tx l).size := by omega
            have q5 : p < Z := by omega
            have q6 : (p : Int) < Z := by omega
            have q7 : (p : Int) + 1 < Z := by omega
            have q8 : (0 : Int) ≤ (p : Int) + 1 := by omega
            have q4 : p + 1 < (tx l).size := by omega
            have v0 : IntKind.i64.wrap (b0.toNat : Int) = b0.toNat := IntWalk.i64_in _ (by omega)
            have v1 : IntKind.i64.wrap (b1.toNat : Int) = b1.toNat := IntWalk.i64_in _ (by omega)
            have v2 : IntKind.i64.wrap ((p : Int) + 1) = (p : Int) + 1 := IntWalk.i64_in _ (by omega)
            go_wp2_with fail
            apply Rg.region_up (fun W => Up wr W) (by kernel_rfl) (by kernel_rfl) (fun w1 h => h)
            · intro QN hQN
              iterate 10 (apply Rg.RK.ok; (· intro vs w1 hS; go_simp; with_reducible rfl); (· rfl); simp only [Act.put, List.setIfInBounds_toArray, List.set_cons_zero, List.set_cons_succ, Nat.reduceAdd])
              apply Rg.RK.opn (New5 wr.heap.size) Rg.ob [] []
              · exact fun v W1 W2 h hs => h.sta hs
              · rfl
              · intro vs w1 hK hS _ K hKK
                go_simp
                exact hKK.out _ _ ⟨w1.heap.size, rfl, (keeps_up hK).size, heap_alloc_new w1 _⟩ (Rg.Keeps.of_up ((Up.refl _).alloc _)) (by rintro g rfl; exact ⟨by simp, .inl (Nat.le_refl _)⟩)
              simp only [Act.put, List.setIfInBounds_toArray, List.set_cons_zero, List.set_cons_succ, Nat.reduceAdd]
              apply Rg.RK.opD (fun vs W => It5 wr.heap.size b0.toNat b1.toNat (vs 10) W) (fun vs => Rg.ob (vs 10)) [10] [10] [10] (fun vs vs' h => by rw [h 10 (by simp)]; exact ⟨rfl, rfl⟩)
              · exact fun vs W1 W2 h hs => h.sta hs
              · rfl
              · intro vs w1 hK hS hf K hKK
                obtain ⟨⟨g, hv, hbs, hh⟩, -⟩ := hf
                (try dsimp only at hKK ⊢)
                rw [hv] at hKK ⊢
                have c0 := blk_cell hh
                have c1 := blk_free hh
                go_simp
                have h5 := set5 w1 g _ _ _ _ _ (.int .i64 (b0.toNat : Int)) (.int .i64 (b1.toNat : Int)) (.int .u64 0) (.int .u64 0) (.int .i64 0) _ hh
                refine hKK.out undef _ ⟨g, hv, hbs, h5.1⟩ (Keeps.weak h5.2 fun y hy => ⟨10, List.mem_singleton.2 rfl, ?_⟩) (fun y hy => ⟨?_, .inr ⟨10, List.mem_singleton.2 rfl, hy⟩⟩)
                · show Rg.ob (vs 10) y
                  rw [hv]; exact hy.symm
                · have hy' : Rg.ob (vs 10) y := hy
                  rw [hv] at hy'
                  have hgy : g = y := hy'
                  rw [← hgy]; exact (Array.getElem?_eq_some_iff.1 h5.1).1
              simp only [Act.put, List.setIfInBounds_toArray, List.set_cons_zero, List.set_cons_succ, Nat.reduceAdd]
              apply Rg.RK.fin [11]
              intro vs w1 hK hS hf
              obtain ⟨⟨gx, hv, hxnew, hh⟩, -⟩ := hf
              refine hQN.out _ _ ?_
              clear hQN
              have huW := keeps_up hK
              (try dsimp only)
              rw [hv]
              clear hv hK hS v0 v1 v2 hg0 hg1 g1 q1 q2 q3 q4 q5 q6 q7 q8
              have hown1 := own_up hown huW
              have hu1 := hu.trans huW
              have hpz : p + 2 ≤ Z := by omega
              have hgxl : gx < w1.heap.size := (Array.getElem?_eq_some_iff.1 hh).1
              have hzz2 : (tx l).size = Z := HZ.out
              go_wp2_with fail
              go_loopw [5, 12] (fun av jv wr2 => ∃ (j q : Nat) (aw : List Nat) (x y z : Nat), jv = .int .i64 (j : Int) ∧ av = .int .i64 (q : Int) ∧ j ≤ 3 ∧ q ≤ Z ∧
                  wr2 = (w1.alloc (.cells #[.int .u64 (x : Int), .int .u64 (y : Int), .int .u64 (z : Int)] 125)) ∧ Hid (takesL (3 - j) aw (l.drop q) = takesL 3 [] (l.drop (p + 2))) ∧ Hid (aw.length = j ∧ aw.getD 0 0 = x ∧ aw.getD 1 0 = y ∧ aw.getD 2 0 = z) ∧ (x : Int) ≤ 18446744073709551615 ∧ (y : Int) ≤ 18446744073709551615 ∧ (z : Int) ≤ 18446744073709551615) (fun _ j _ => 3 - (intOf j).toNat)
              case atStart => exact ⟨0, p + 2, [], 0, 0, 0, rfl, rfl, by omega, hpz, rfl, rfl, ⟨rfl, rfl, rfl, rfl⟩, by omega, by omega, by omega⟩
              case round =>
                obtain ⟨j, q, aw, x, y, z, rfl, rfl, hj, hq, rfl, HT2, HA, hx, hy, hz⟩ := hrel
                by_cases hjlt : j < 3
                · have hex : (tx l).extract q Z = tx (l.drop q) := tx_of (by rw [← hzz2]; exact ext_tx HS.out q)
                  have HE := Lib.hid hex
                  clear hex
                  go_wp2_with fail
                  rw [HE.out]
                  refine (rtake_any _ (l.drop q) _ (tx_list _) (by rw [tx_size, List.length_drop]; have := HLZ.out; omega)).mono ?_
                  rintro e w2 ⟨rfl, rfl⟩
                  by_cases he : (takeL (l.drop q)).2.2 = 0
                  · have hok := takeL_ok he
                    have hst : takesL (3 - j) aw (l.drop q) = takesL (3 - (j + 1)) (aw ++ [(takeL (l.drop q)).1]) ((l.drop q).drop (takeL (l.drop q)).2.1) := by
                      rw [show 3 - j = (3 - (j + 1)) + 1 by omega]
                      conv => lhs; unfold takesL
                      rw [if_pos he]
                    rw [List.drop_drop] at hst
                    have hdl : (l.drop q).length = Z - q := by rw [List.length_drop, HLZ.out]
                    rw [hdl] at hok
                    rw [he]
                    have HST := Lib.hid (HT2.out.symm.trans hst)
                    clear hst he
                    generalize (takeL (l.drop q)).1 = an at *
                    generalize (takeL (l.drop q)).2.1 = ss at *
                    obtain ⟨k1, k2, k3, k4⟩ := hok
                    have t3 : (an : Int) ≤ 18446744073709551615 := by omega
                    have t4 : q + ss ≤ Z := by omega
                    clear k1 k2 k3 k4 hdl
                    have hk3 : j = 0 ∨ j = 1 ∨ j = 2 := by omega
                    rcases hk3 with rfl | rfl | rfl
                    · go_wp2_with fail
                      go_roundw
                      case rel =>
                        refine ⟨1, q + ss, aw ++ [an], an, y, z, rfl, rfl, by omega, t4, rfl, HST.out.symm, ?_, by omega, by omega, by omega⟩
                        obtain ⟨q1, q2, q3, q4⟩ := HA.out
                        match aw, q1 with
                        | [], _ => exact ⟨by simp, by first | exact q2 | simp, by first | exact q3 | simp, by first | exact q4 | simp⟩
                      case measure => simp [intOf]
                    · go_wp2_with fail
                      go_roundw
                      case rel =>
                        refine ⟨2, q + ss, aw ++ [an], x, an, z, rfl, rfl, by omega, t4, rfl, HST.out.symm, ?_, by omega, by omega, by omega⟩
                        obtain ⟨q1, q2, q3, q4⟩ := HA.out
                        match aw, q1 with
                        | [a0], _ => exact ⟨by simp, by first | exact q2 | simp, by first | exact q3 | simp, by first | exact q4 | simp⟩
                      case measure => simp [intOf]
                    · go_wp2_with fail
                      go_roundw
                      case rel =>
                        refine ⟨3, q + ss, aw ++ [an], x, y, an, rfl, rfl, by omega, t4, rfl, HST.out.symm, ?_, by omega, by omega, by omega⟩
                        obtain ⟨q1, q2, q3, q4⟩ := HA.out
                        match aw, q1 with
                        | [a0, a1], _ => exact ⟨by simp, by first | exact q2 | simp, by first | exact q3 | simp, by first | exact q4 | simp⟩
                      case measure => simp [intOf]
                  · have hst : takesL (3 - j) aw (l.drop q) = ((takeL (l.drop q)).2.2, [], []) := by
                      rw [show 3 - j = (3 - (j + 1)) + 1 by omega]
                      unfold takesL
                      rw [if_neg he]
                    have ho := HO.out
                    rw [← HT2.out, hst, if_neg he] at ho
                    have hst2 : itsL tn [] l2 = ((takeL (l.drop q)).2.2, [], []) := by
                      rw [← HT.out, show tn - m = (tn - (m + 1)) + 1 by omega]
                      unfold itsL
                      rw [ho, if_neg he]
                    have hv : readL l = ((takeL (l.drop q)).2.2, []) := by rw [HV.out, hst2, if_pos he]
                    have HR := Lib.hid hv
                    clear hv hst hst2 ho
                    generalize (takeL (l.drop q)).2.2 = te at *
                    have h0 : ¬ (te : Int) = 0 := by omega
                    go_wp2_with fail
                    go_ret2
                    rw [HR.out]
                    exact ⟨none, 0, 0, rfl, NIL.out _, (hu1.alloc _)⟩
                · have hj3 : j = 3 := by omega
                  subst hj3
                  have hones : oneL (l.drop p) = (0, mkIt b0.toNat b1.toNat x y z, l.drop q) := by
                    obtain ⟨q1, q2, q3, q4⟩ := HA.out
                    rw [HO.out, ← HT2.out]
                    show (if (0 : Nat) = 0 then (0, mkIt b0.toNat b1.toNat (aw.getD 0 0) (aw.getD 1 0) (aw.getD 2 0), l.drop q) else _) = _
                    rw [if_pos rfl, q2, q3, q4]
                  have hst : itsL (tn - (m + 1)) (acc ++ [mkIt b0.toNat b1.toNat x y z]) (l.drop q) = itsL tn [] l2 := by
                    rw [← HT.out, show tn - m = (tn - (m + 1)) + 1 by omega]
                    conv => rhs; unfold itsL
                    rw [hones, if_pos rfl]
                  have HST := Lib.hid hst
                  have hc := mkIt_c b0.toNat b1.toNat x y z hb0 hb1 (by omega) (by omega) (by omega)
                  clear hst hones HA HT2 HO HT HX0 HX1 hb0 hb1
                  have HC := Lib.hid hc
                  clear hc
                  generalize mkIt b0.toNat b1.toNat x y z = it at *
                  have huq : Up w1 (w1.alloc (.cells #[.int .u64 (x : Int), .int .u64 (y : Int), .int .u64 (z : Int)] 125)) := (Up.refl w1).alloc _
                  have hh5 : At5 gx _ _ _ _ _ (w1.alloc (.cells #[.int .u64 (x : Int), .int .u64 (y : Int), .int .u64 (z : Int)] 125)) := (huq.block gx hgxl).trans hh
                  have hh3 := heap_alloc_new w1 (.cells #[.int .u64 (x : Int), .int .u64 (y : Int), .int .u64 (z : Int)] 125)
                  have hne : w1.heap.size ≠ gx := by omega
                  have hlt' : gx < (w1.alloc (.cells #[.int .u64 (x : Int), .int .u64 (y : Int), .int .u64 (z : Int)] 125)).heap.size := Nat.lt_of_lt_of_le hgxl huq.size
                  have huwq := hu1.trans huq
                  have hownq := own_up hown1 huq
                  have hrow : ∀ g, Rg.ob (.slice R m d) g → g ≠ gx := fun g hg => by
                    have := (hown.lt g ((ob_of hown).2 hg)).2
                    omega
                  have hz3 : z < 18446744073709551616 := by omega
                  generalize w1.alloc (.cells #[.int .u64 (x : Int), .int .u64 (y : Int), .int .u64 (z : Int)] 125) = wq at *
                  generalize w1.heap.size = gy at *
                  clear hown1 hu1 huq hh huW hown hgxl
                  have hS3 : ∀ w2, Rg.Keeps (fun g => g = gx) wq.drew w2 → w2.cell? ⟨gy, 0, none⟩ = some (.int .u64 (x : Int)) ∧ w2.cell? ⟨gy, 1, none⟩ = some (.int .u64 (y : Int)) ∧ w2.cell? ⟨gy, 2, none⟩ = some (.int .u64 (z : Int)) := fun w2 hK => by
                    have h := (hK.block gy (Array.getElem?_eq_some_iff.1 hh3).1 hne).trans hh3
                    exact ⟨blk_cell h 0, blk_cell h 1, blk_cell h 2⟩
                  go_wp2_with fail
                  apply Rg.region_own 13 (fun W => W.cell? ⟨gy, 0, none⟩ = some (.int .u64 (x : Int)) ∧ W.cell? ⟨gy, 1, none⟩ = some (.int .u64 (y : Int)) ∧ W.cell? ⟨gy, 2, none⟩ = some (.int .u64 (z : Int))) (fun g => g = gx) (At5 gx (.int .i64 (b0.toNat : Int)) (.int .i64 (b1.toNat : Int)) (.int .u64 0) (.int .u64 0) (.int .i64 0)) rfl (by kernel_rfl) (by kernel_rfl) (by rintro g rfl; exact hlt') hh5 (fun w1 w2 h hs => h.sta hs (.inr rfl)) hS3
                  · intro QN hQN
                    iterate 6 (apply Rg.RK.ok; (· intro vs w1 hS; go_simp; with_reducible rfl); (· rfl); simp only [Act.put, List.setIfInBounds_toArray, List.set_cons_zero, List.set_cons_succ, Nat.reduceAdd])
                    apply Rg.RK.call (.int .i64 (unsignZ z)) []
                    · rfl
                    · intro vs w1 hK hS _ K hKK
                      go_simp
                      refine (runsign_any z _ hz3).mono ?_
                      rintro e w2 ⟨rfl, rfl⟩
                      exact hKK.out _ (Up.refl _)
                    simp only [Act.put, List.setIfInBounds_toArray, List.set_cons_zero, List.set_cons_succ, Nat.reduceAdd]
                    (apply Rg.RK.ok; (· intro vs w1 hS; go_simp; with_reducible rfl); (· rfl); simp only [Act.put, List.setIfInBounds_toArray, List.set_cons_zero, List.set_cons_succ, Nat.reduceAdd])
                    apply Rg.RK.opD (fun vs W => At5 gx (.int .i64 (b0.toNat : Int)) (.int .i64 (b1.toNat : Int)) (.int .u64 (x : Int)) (.int .u64 0) (.int .i64 0) W) (fun vs g => g = gx) [13] [13] [] (fun _ _ _ => ⟨rfl, rfl⟩)
                    · exact fun vs W1 W2 h hs => h.sta hs (.inr rfl)
                    · rfl
                    · intro vs w1 hK hS hf K hKK
                      have hh := hf.1
                      have hh' : At5 gx _ _ _ _ _ w1 := hh
                      have q0 := blk_cell hh'
                      have q1 := blk_free hh'
                      go_simp
                      refine hKK.out undef _ (At5.setc2 hh') (Keeps.weak (setc_keeps w1 w1 gx 2 _ (Rg.Keeps.refl _ _)) fun y hy => ⟨13, List.mem_singleton.2 rfl, hy⟩) (fun y hy => ⟨?_, .inr ⟨13, List.mem_singleton.2 rfl, hy⟩⟩)
                      have hyx : y = gx := hy
                      rw [hyx]; exact (Array.getElem?_eq_some_iff.1 (At5.setc2 hh')).1
                    simp only [Act.put, List.setIfInBounds_toArray, List.set_cons_zero, List.set_cons_succ, Nat.reduceAdd]
                    (apply Rg.RK.ok; (· intro vs w1 hS; go_simp; with_reducible rfl); (· rfl); simp only [Act.put, List.setIfInBounds_toArray, List.set_cons_zero, List.set_cons_succ, Nat.reduceAdd])
                    apply Rg.RK.opD (fun vs W => At5 gx (.int .i64 (b0.toNat : Int)) (.int .i64 (b1.toNat : Int)) (.int .u64 (x : Int)) (.int .u64 (y : Int)) (.int .i64 0) W) (fun vs g => g = gx) [8] [8] [] (fun _ _ _ => ⟨rfl, rfl⟩)
                    · exact fun vs W1 W2 h hs => h.sta hs (.inr rfl)
                    · rfl
                    · intro vs w1 hK hS hf K hKK
                      have hh := hf.1
                      have hh' : At5 gx _ _ _ _ _ w1 := hh
                      have q0 := blk_cell hh'
                      have q1 := blk_free hh'
                      go_simp
                      refine hKK.out undef _ (At5.setc3 hh') (Keeps.weak (setc_keeps w1 w1 gx 3 _ (Rg.Keeps.refl _ _)) fun y hy => ⟨8, List.mem_singleton.2 rfl, hy⟩) (fun y hy => ⟨?_, .inr ⟨8, List.mem_singleton.2 rfl, hy⟩⟩)
                      have hyx : y = gx := hy
                      rw [hyx]; exact (Array.getElem?_eq_some_iff.1 (At5.setc3 hh')).1
                    simp only [Act.put, List.setIfInBounds_toArray, List.set_cons_zero, List.set_cons_succ, Nat.reduceAdd]
                    (apply Rg.RK.ok; (· intro vs w1 hS; go_simp; with_reducible rfl); (· rfl); simp only [Act.put, List.setIfInBounds_toArray, List.set_cons_zero, List.set_cons_succ, Nat.reduceAdd])
                    apply Rg.RK.opD (fun vs W => At5 gx (.int .i64 (b0.toNat : Int)) (.int .i64 (b1.toNat : Int)) (.int .u64 (x : Int)) (.int .u64 (y : Int)) (.int .i64 (unsignZ z)) W) (fun vs g => g = gx) [10] [10] [] (fun _ _ _ => ⟨rfl, rfl⟩)
                    · exact fun vs W1 W2 h hs => h.sta hs (.inr rfl)
                    · rfl
                    · intro vs w1 hK hS hf K hKK
                      have hh := hf.1
                      have hh' : At5 gx _ _ _ _ _ w1 := hh
                      have q0 := blk_cell hh'
                      have q1 := blk_free hh'
                      go_simp
                      refine hKK.out undef _ (At5.setc4 hh') (Keeps.weak (setc_keeps w1 w1 gx 4 _ (Rg.Keeps.refl _ _)) fun y hy => ⟨10, List.mem_singleton.2 rfl, hy⟩) (fun y hy => ⟨?_, .inr ⟨10, List.mem_singleton.2 rfl, hy⟩⟩)
                      have hyx : y = gx := hy
                      rw [hyx]; exact (Array.getElem?_eq_some_iff.1 (At5.setc4 hh')).1
                    simp only [Act.put, List.setIfInBounds_toArray, List.set_cons_zero, List.set_cons_succ, Nat.reduceAdd]
                    apply Rg.RK.fin [12]
                    intro vs w1 hK hS hf
                    obtain ⟨hh6, -⟩ := hf
                    refine hQN.out _ _ ?_
                    clear hQN
                    have hh7 : w1.heap[gx]? = some (.cells (itc it).toArray 25 (0, 0)) := by rw [HC.out]; exact hh6
                    have hh8 : w1.heap[gx]? = some (.cells #[.int .i64 it.s.toInt, .int .i64 it.k.toInt, .int .u64 (it.t.toNat : Int), .int .u64 (it.v.toNat : Int), .int .i64 it.x.toInt] 25 (0, 0)) := hh7
                    have hu9 := keeps_fresh huwq (Nat.le_trans hu.size hxnew) hK
                    have hown9 := own_keeps hownq hrow hK
                    clear hh6 hh7 hS3 hS hh5 hh3 hK hownq huwq hrow HC
                    have e0 : w1.cell? ⟨gx, 0, none⟩ = some (.int .i64 it.s.toInt) := blk_cell hh8 0
                    have e1 : w1.cell? ⟨gx, 1, none⟩ = some (.int .i64 it.k.toInt) := blk_cell hh8 1
                    have e2 : w1.cell? ⟨gx, 2, none⟩ = some (.int .u64 (it.t.toNat : Int)) := blk_cell hh8 2
                    have e3 : w1.cell? ⟨gx, 3, none⟩ = some (.int .u64 (it.v.toNat : Int)) := blk_cell hh8 3
                    have e4 : w1.cell? ⟨gx, 4, none⟩ = some (.int .i64 it.x.toInt) := blk_cell hh8 4
                    (try dsimp only)
                    cases bb
                    · go_wp2_with (at_builtin; refine wpList_append_rd _ itemsT (news := itcs [it]) (World.ownsRow.alloc hown9 _) (Rd.ilit_at _ [it] _ _ (by simp) rfl) (itcs_one _) (by simp; omega) (by simp; omega) (by simp; have := hu9.size; omega) rfl rfl rfl rfl ?_; intro v3 w3 hown3 hg3 hat3; obtain ⟨R3, d3, rfl⟩ := own_form hown3)
                      have hu3 : Up w w3 := (hu9.alloc _).grown hg3 (fun g hg => (hown9.lt g hg).1)
                      go_roundw
                      case rel =>
                        refine ⟨m + 1, q, R3, m + 1, d3, acc ++ [it], by go_num, rfl, rfl, ?_, by omega, hq, rfl, ?_, HST.out, hu3⟩
                        · rw [List.all_append, HBD.out]; simp
                        · show World.ownsRow _ _ _ _ _ _ _
                          rw [itcs_append]; exact hown3
                      case measure => simp [intOf]; omega
                    · go_wp2_with (first
                        | (go_at_call 60; refine (rok_any it _).mono ?_; rintro e w2 ⟨rfl, hu2⟩; have hown2 := own_up hown9 hu2; have d0 := cell_up hu2 e0; have d1 := cell_up hu2 e1; have d2 := cell_up hu2 e2; have d3 := cell_up hu2 e3; have d4 := cell_up hu2 e4; replace hu2 := hu9.trans hu2)
                        | (at_builtin; refine wpList_append_rd _ itemsT (news := itcs [it]) (World.ownsRow.alloc hown2 _) (Rd.ilit_at _ [it] _ _ (by simp) rfl) (itcs_one _) (by simp; omega) (by simp; omega) (by simp; have := hu2.size; omega) rfl rfl rfl rfl ?_; intro v3 w3 hown3 hg3 hat3; obtain ⟨R3, d3, rfl⟩ := own_form hown3))
                      have hu3 : Up w w3 := (hu2.alloc _).grown hg3 (fun g hg => (hown2.lt g hg).1)
                      go_roundw
                      case rel =>
                        refine ⟨m + 1, q, R3, m + 1, d3, acc ++ [it], by go_num, rfl, rfl, ?_, by omega, hq, rfl, ?_, HST.out, hu3⟩
                        · rw [List.all_append, HBD.out]; simp
                        · show World.ownsRow _ _ _ _ _ _ _
                          rw [itcs_append]; exact hown3
                      case measure => simp [intOf]; omega
                  · kernel_rfl
            · kernel_rfl
        · have hkt : m = tn := by omega
          subst hkt
          have hT : itsL m [] l2 = (0, acc, l.drop p) := by rw [← HT.out, Nat.sub_self]; rfl
          have hv := HV.out
          rw [hT, if_neg (by simp)] at hv
          have hdl : (l.drop p).length = Z - p := by rw [List.length_drop, HLZ.out]
          by_cases hpz : p = Z
          · subst hpz
            cases bb
            · rw [if_neg (by simp [HBD.out])] at hv
              have HR := Lib.hid hv
              clear hv hT hdl HT
              go_wp2_with fail
              go_ret2
              rw [HR.out]
              exact ⟨none, 0, 0, rfl, NIL.out _, hu⟩
            · rw [if_pos ⟨by simp only []; omega, by simpa using HBD.out⟩] at hv
              have HR := Lib.hid hv
              clear hv hT hdl HT
              go_wp2_with fail
              go_ret2
              rw [HR.out]
              exact ⟨R, m, d, rfl, hown, hu⟩
          · rw [if_neg (by simp only []; intro h; have := h.1; omega)] at hv
            have HR := Lib.hid hv
            have hpl : (p : Int) < Z := by omega
            clear hv hT hdl HT
            cases bb
            · go_wp2_with fail
              go_ret2
              rw [HR.out]
              exact ⟨none, 0, 0, rfl, NIL.out _, hu⟩
            · go_wp2_with fail
              go_ret2
              rw [HR.out]
              exact ⟨none, 0, 0, rfl, NIL.out _, hu⟩
  · have hv : readL l = ((takeL l).2.2, []) := by unfold readL; rw [if_pos he]
    have HV := Lib.hid hv
    clear hv hts hsz
    go_enter Try.func41, Try.ntmps41
    go_wp2_with fail
    refine (HT0.out w).mono ?_
    rintro e w1 ⟨rfl, rfl⟩
    generalize (takeL l).2.2 = te at *
    have h0 : ¬ (te : Int) = 0 := by omega
    go_wp2_with fail
    go_ret2
    rw [HV.out]
    exact ⟨none, 0, 0, rfl, NIL.out _, Up.refl _⟩
end Go.Proofs.Ytnjmekjaingniaa

/-
  The walks of log.Replay and of the document's Replay.
-/
namespace Go.Proofs.Ytnjmekjaingniaa
open Go.RowKit
set_option linter.unusedVariables false
set_option linter.unusedSimpArgs false

theorem rowsIT : SlT Try.prog 33 22 1 24 := SlT.mk' Try.underlying33 (z := .slice none 0 0) (by kernel_rfl) rfl (by decide)
def OwnRI (w : World) (base : Nat) (A : Option Addr) (n c : Nat) (rs : List Rw) : Prop := w.ownsRow base 22 1 (.slice A n c) n (rwv rs)
theorem OwnRI.rd {w : World} {base n c : Nat} {A : Option Addr} {rs : List Rw} (h : OwnRI w base A n c rs) : Rd w w.heap.size 1 A n (rwv rs) := Rd.own h
theorem OwnRI.len {w : World} {base n c : Nat} {A : Option Addr} {rs : List Rw} (h : OwnRI w base A n c rs) : n = rs.length := (OwnRI.rd h).rlen
theorem OwnRI.up {w w' : World} {base n c : Nat} {A : Option Addr} {rs : List Rw} (h : OwnRI w base A n c rs) (hu : Up w w') : OwnRI w' base A n c rs := own_up h hu
theorem OwnRI.nil (w : World) (base : Nat) : OwnRI w base none 0 0 [] := World.ownsRow_nil _ _ _ _
theorem OwnRI.snoc {w : World} {base n c : Nat} {A : Option Addr} {rs : List Rw} {A1 : Option Addr} {n1 c1 : Nat} {l : List It} (h : w.ownsRow base 22 1 (.slice A n c) n (rwv rs ++ [.slice A1 n1 c1])) : OwnRI w base A n c (rs ++ [⟨A1, n1, c1, l⟩]) := by
  unfold OwnRI; rw [rwv_snoc]; exact h
/-- rows of the call's own: what a Replay tells -/
def ReplPost (r : Option (List (List It) × Nat)) (w : World) (e : Ending) (w' : World) : Prop :=
  match r with
  | none => e = .returned (.tuple #[.slice none 0 0, .int .i64 0, .int .i64 9]) ∧ Up w w'
  | some x => ∃ R m rc rs, e = .returned (.tuple #[.slice R m rc, .int .i64 (x.2 : Int), .int .i64 0]) ∧ OwnRI w' w.heap.size R m rc rs ∧ RwOwn w' w.heap.size rs ∧ rwl rs = x.1 ∧ Up w w'
theorem ReplPost.no {r : Option (List (List It) × Nat)} {w w' : World} (h : r = none) (hu : Up w w') : ReplPost r w (.returned (.tuple #[.slice none 0 0, .int .i64 0, .int .i64 9])) w' := by subst h; exact ⟨rfl, hu⟩
set_option maxRecDepth 100000 in
set_option maxHeartbeats 6400000 in
theorem replay14_any (A : Option Addr) (n c : Nat) (bs : List UInt8) (w : World) (hr : Rd w w.heap.size 1 A n (bvs bs)) (hn : n ≤ 549755813888) (hnc : n ≤ c) :
    Calls Try.prog 15 #[.slice A n c] w (ReplPost (replL bs) w) := by
  have hbl : bs.length = n := hr.blen.symm
  have hbody := splitL_body bs
  have hlens := splitL_lens bs
  have hvp := repl_split bs
  have hsp := split_any A n c bs w hr hn hnc
  obtain ⟨ks, bd, en, er, hT⟩ : ∃ a b c d, splitL bs = (a, b, c, d) := ⟨_, _, _, _, rfl⟩
  rw [hT] at hbody hlens hvp hsp
  (try dsimp only at hbody hlens hvp hsp)
  rw [hbl] at hbody hlens
  have HVP := Lib.hid hvp
  have HSP := Lib.hid hsp
  have HBD := Lib.hid hbody
  have HLN := Lib.hid hlens
  clear hvp hsp hbody hlens hT hbl
  go_enter Try.func15, Try.ntmps15
  go_wp2_with fail
  refine HSP.out.mono ?_
  rintro e w2 ⟨K, kn, kc, R, rn, rc, ps, rfl, hK, hR, hP, hu2⟩
  (try dsimp only at hK hR hP ⊢)
  have hrn : rn = bd.length := by have h := hR.1; have h2 := congrArg List.length hP.1; rw [List.length_map] at h h2; omega
  have hkn : kn = ks.length := by have h := hK.1; unfold nvi at h; rw [List.length_map] at h; omega
  have hkr : kn = rn := by have := HLN.out.1; omega
  have hrb : rn ≤ n + 1 := by have := HLN.out.2; omega
  subst hkr
  have HRN := Lib.hid hrn
  have HKN := Lib.hid hkn
  have hsz2 := hu2.size
  clear HSP hrn hkn hr
  by_cases hE : er ≠ 0 ∧ er ≠ 4
  · have hbad2 : replL bs = none := by rw [HVP.out, if_pos hE]
    have HBAD := Lib.hid hbad2
    have d1 : ((er : Int) != 0) = true := by rw [bne_iff_ne]; omega
    have d2 : ((er : Int) != 4) = true := by rw [bne_iff_ne]; omega
    clear hbad2 HVP HBD HLN hP hE
    go_wp2_with fail
    refine bodyPost_ret (v := .tuple #[.slice none 0 0, .int .i64 0, .int .i64 9]) (by simp [results, Try.results15, go_sem]) rfl ?_
    exact ReplPost.no HBAD.out hu2
  have hvp := HVP.out
  rw [if_neg hE] at hvp
  have HV := Lib.hid hvp
  have hd : (((er : Int) != 0) = false) ∨ (((er : Int) != 0) = true ∧ ((er : Int) != 4) = false) := by
    by_cases h0 : er = 0
    · exact .inl (by rw [bne_eq_false_iff_eq]; omega)
    · exact .inr ⟨by rw [bne_iff_ne]; omega, by rw [bne_eq_false_iff_eq]; omega⟩
  clear hvp HVP hE
  have keepR : ∀ (wa wb : World) (A n c : _) (rs : List Rw), OwnRI wa w2.heap.size A n c rs → wa.grownBy wb (Value.slice A n c).ownBlock → RwOwn wa w2.heap.size rs → RwOwn wb w2.heap.size rs := fun wa wb A n c rs h hg hr r hr' => own_far h (hr r hr') (by decide) hg
  go_upto_region 2 with fail
  go_cut [23] from 18 (fun s23 wc => s23 = .bool false ∧ wc = w2)
  case first =>
    rcases hd with d1 | ⟨d1, d2⟩
    · go_wp2_with fail
      go_meet
      case rel => exact ⟨rfl, rfl⟩
    · go_wp2_with fail
      go_meet
      case rel => exact ⟨rfl, rfl⟩
  obtain ⟨rfl, rfl⟩ := hcut
  clear hd
  go_wp2_with fail
  go_loopw [2, 3, 26] (fun lv ev i wr => ∃ (k : Nat) (L : Option Addr) (lc : Nat) (rs : List Rw), lv = .slice L k lc ∧ ev = .int .i64 (en : Int) ∧ i = .int .i64 (k : Int) ∧ k ≤ kn ∧ OwnRI wr wc.heap.size L k lc rs ∧ RwOwn wr wc.heap.size rs ∧ Hid (foldF stepL [] (ks.take k) (bd.take k) = some (rwl rs)) ∧ Up wc wr) (fun _ _ i _ => kn - (intOf i).toNat)
  case atStart => exact ⟨0, none, 0, [], rfl, rfl, rfl, by omega, OwnRI.nil _ _, RwOwn.nil _ _, rfl, Up.refl _⟩
  case round =>
    obtain ⟨k, L, lc, rs, rfl, rfl, rfl, hk, hown, hrw, hfo, hup⟩ := hrel
    by_cases hkk : k < kn
    · have hK1 : OwnK wr w.heap.size K kn kc ks := own_up hK hup
      have hR1 : OwnR wr w.heap.size R kn rc ps := own_up hR hup
      have k1 : k < bd.length := by rw [← HRN.out]; exact hkk
      have k2 : k < ks.length := by rw [← HKN.out]; exact hkk
      have k3 : k < ps.length := by have h2 := congrArg List.length hP.1; rw [List.length_map] at h2; omega
      obtain ⟨bK, oK, rfl, hbK, hcK⟩ := (Rd.own hK1).2 (by omega)
      obtain ⟨bR, oR, rfl, hbR, hcR⟩ := (Rd.own hR1).2 (by omega)
      have e1 := hcK k (.int .i64 (ks[k] : Int)) (by unfold nvi; simp [k2])
      have e2 := hcR k ps[k].v (by rw [List.getElem?_map, List.getElem?_eq_getElem k3]; rfl)
      have ho : OwnB wr w.heap.size ps[k].A ps[k].n ps[k].c ps[k].l := own_up (hP.2 ps[k] (List.getElem_mem _)) hup
      have hl : ps[k].l = bd[k] := by
        have h := congrArg (fun l => l[k]?) hP.1
        simp only [List.getElem?_map, List.getElem?_eq_getElem k3, List.getElem?_eq_getElem k1, Option.map_some] at h
        injection h
      have hbl := HBD.out bd[k] (List.getElem_mem _)
      have hst : foldF stepL [] (ks.take (k + 1)) (bd.take (k + 1)) = stepL (rwl rs) ks[k] bd[k] := by
        rw [List.take_succ_eq_append_getElem k2, List.take_succ_eq_append_getElem k1]
        exact foldF_snoc stepL (by simp; omega) hfo.out
      have hno : stepL (rwl rs) ks[k] bd[k] = none → replL bs = none := fun h => by
        rw [HV.out, foldF_take_none stepL (k + 1) HLN.out.1 (hst.trans h)]; rfl
      rw [hl] at ho
      generalize ps[k] = p5 at *
      obtain ⟨pA, pn, pc, pl⟩ := p5
      simp only [Pt.v] at e2 ho
      generalize ks[k] = kk at *
      generalize bd[k] = bk at *
      have hrd := ho.rd
      have hpn := hrd.blen
      have hpc := own_cap ho
      have HNO := Lib.hid hno
      have HST := Lib.hid hst
      have hpb : pn ≤ 9223372036854775807 := by omega
      clear hno hst hl hcK hcR k1 k2 k3 hK1 hR1 ho hbl hpn
      go_wp2_with fail
      refine (read_any pA pn pc bk wr hrd hpb hpc).mono ?_
      rintro e w3 ⟨Q, qn, qc, rfl, hoQ, hu3⟩
      obtain ⟨qe, ql, hq⟩ : ∃ a b, readL bk = (a, b) := ⟨_, _, rfl⟩
      have hsv : stepL (rwl rs) kk bk = if kk = 1 ∧ qe = 0 ∧ 0 < ql.length then some (rwl rs ++ [ql]) else none := by unfold stepL; rw [hq]
      rw [hq] at hoQ ⊢
      (try dsimp only at hoQ ⊢)
      have hqn := hoQ.len
      have hup3 := hup.trans hu3
      have hupw := hu2.trans hup3
      have e3 : w3.cell? ⟨bK, oK + k, none⟩ = some (.int .i64 (kk : Int)) := (hu3.cell (p := ⟨bK, oK + k, none⟩) hbK).trans e1
      have HSV := Lib.hid hsv
      have HQN := Lib.hid hqn
      have hsz := hup.size
      clear hq hsv hqn e1 e2 hrd
      by_cases hqe : qe = 0
      · have c1 : ((qe : Int) != 0) = false := by rw [bne_eq_false_iff_eq]; omega
        by_cases hk1 : kk = 1
        · have c2 : ((kk : Int) != 1) = false := by rw [bne_eq_false_iff_eq]; omega
          by_cases hq0 : qn = 0
          · have c3 : ((qn : Int) == 0) = true := by rw [beq_iff_eq]; omega
            have hb := HNO.out (by rw [HSV.out, if_neg (by have := HQN.out; omega)])
            have HBAD := Lib.hid hb
            clear hb hqe hk1 hq0
            go_wp2_with fail
            refine bodyPost_ret (v := .tuple #[.slice none 0 0, .int .i64 0, .int .i64 9]) (by simp [results, Try.results15, go_sem]) rfl ?_
            exact ReplPost.no HBAD.out hupw
          · have c3 : ((qn : Int) == 0) = false := by rw [beq_eq_false_iff_ne]; omega
            have hs2 : foldF stepL [] (ks.take (k + 1)) (bd.take (k + 1)) = some (rwl rs ++ [ql]) := by
              rw [HST.out, HSV.out, if_pos ⟨hk1, hqe, by have := HQN.out; omega⟩]
            have HS2 := Lib.hid hs2
            have hown3 : OwnRI w3 wc.heap.size L k lc rs := hown.up hu3
            have hrw3 := hrw.up hu3
            have hoQ2 := own_base hoQ hsz
            clear hs2 hqe hk1 hq0 hown hrw HSV HNO HST
            go_wp2_with (at_builtin; refine wpList_append_rd _ rowsIT (news := [Value.slice Q qn qc]) (World.ownsRow.alloc hown3 _) (Rd.box _ _ _) (by intro u hu; simp at hu; subst hu; rfl) (by omega) (by omega) (by simp; have := hup3.size; omega) rfl rfl rfl rfl ?_; intro v4 w4 hown4 hg4 hat4; obtain ⟨L4, lc4, rfl⟩ := own_form hown4)
            have hu4 : Up wc w4 := (hup3.alloc _).grown hg4 (fun g hg => (hown3.lt g hg).1)
            have hrw4 : RwOwn w4 wc.heap.size rs := keepR _ _ _ _ _ _ (World.ownsRow.alloc hown3 _) hg4 (hrw3.up ((Up.refl _).alloc _))
            have hq4 : OwnI w4 wc.heap.size Q qn qc ql := own_far (World.ownsRow.alloc hown3 _) (World.ownsRow.alloc hoQ2 _) (by decide) hg4
            go_roundw
            case rel => exact ⟨k + 1, L4, lc4, rs ++ [⟨Q, qn, qc, ql⟩], rfl, rfl, by go_num, by omega, OwnRI.snoc hown4, hrw4.snoc hq4, by rw [rwl_snoc]; exact HS2, hu4⟩
            case measure => simp [intOf] <;> omega
        · have c2 : ((kk : Int) != 1) = true := by rw [bne_iff_ne]; omega
          have hb := HNO.out (by rw [HSV.out, if_neg (by omega)])
          have HBAD := Lib.hid hb
          clear hb hqe hk1
          go_wp2_with fail
          refine bodyPost_ret (v := .tuple #[.slice none 0 0, .int .i64 0, .int .i64 9]) (by simp [results, Try.results15, go_sem]) rfl ?_
          exact ReplPost.no HBAD.out hupw
      · have c1 : ((qe : Int) != 0) = true := by rw [bne_iff_ne]; omega
        have hb := HNO.out (by rw [HSV.out, if_neg (by omega)])
        have HBAD := Lib.hid hb
        clear hb hqe
        go_wp2_with fail
        refine bodyPost_ret (v := .tuple #[.slice none 0 0, .int .i64 0, .int .i64 9]) (by simp [results, Try.results15, go_sem]) rfl ?_
        exact ReplPost.no HBAD.out hupw
    · have hke : k = kn := by omega
      subst hke
      have hf2 : foldF stepL [] ks bd = some (rwl rs) := by
        have h := hfo.out
        rw [List.take_of_length_le (by have := HKN.out; omega), List.take_of_length_le (by have := HRN.out; omega)] at h
        exact h
      have hres : replL bs = some (rwl rs, en) := by rw [HV.out, hf2]; rfl
      have HRES := Lib.hid hres
      clear hf2 hres hfo HV HBD HLN HRN HKN
      go_wp2_with fail
      refine bodyPost_ret (v := .tuple #[.slice L k lc, .int .i64 (en : Int), .int .i64 0]) (by simp [results, Try.results15, go_sem]) rfl ?_
      rw [HRES.out]
      exact ⟨L, k, lc, rs, rfl, own_base hown hsz2, hrw.base hsz2, rfl, hu2.trans hup⟩
theorem takeF_at (l : List UInt8) {k : Nat} (h : k ≤ l.length) : takeF l (k : Int) = ((takeR (l.drop k)).1, (takeR (l.drop k)).2.1, (takeR (l.drop k)).2.2.1, if (takeR (l.drop k)).1 = 0 then (k : Int) + (takeR (l.drop k)).2.2.2 else 0) := by
  unfold takeF
  rw [if_neg (by omega), Int.toNat_natCast]
set_option maxRecDepth 100000 in
set_option maxHeartbeats 6400000 in
theorem rreplay14_any (l : List UInt8) (w : World) (hn : l.length ≤ 549755813888) :
    Calls Try.prog 18 #[.string (tx l)] w (ReplPost (replL l) w) := by
  obtain ⟨n, hnl⟩ : ∃ n, n = l.length := ⟨_, rfl⟩
  have hz : (tx l).size = n := by rw [hnl]; exact tx_size l
  have hn2 : n ≤ 549755813888 := by omega
  have HL := Lib.hid hnl
  clear hnl
  have keepR : ∀ (wa wb : World) (A n c : _) (rs : List Rw), OwnRI wa w.heap.size A n c rs → wa.grownBy wb (Value.slice A n c).ownBlock → RwOwn wa w.heap.size rs → RwOwn wb w.heap.size rs := fun wa wb A n c rs h hg hr r hr' => own_far h (hr r hr') (by decide) hg
  go_enter Try.func18, Try.ntmps18
  go_wp2_with fail
  go_loopw [5, 6] (fun lv i wr => ∃ (k m : Nat) (L : Option Addr) (lc : Nat) (rs : List Rw), lv = .slice L m lc ∧ i = .int .i64 (k : Int) ∧ k ≤ n ∧ m ≤ k ∧ OwnRI wr w.heap.size L m lc rs ∧ RwOwn wr w.heap.size rs ∧ Hid (∃ f, n - k < f ∧ seqF stepL l f k (rwl rs) = replL l) ∧ Up w wr) (fun _ i _ => n - (intOf i).toNat)
  case atStart => exact ⟨0, 0, none, 0, [], rfl, rfl, by omega, by omega, OwnRI.nil _ _, RwOwn.nil _ _, ⟨l.length + 1, by have := HL.out; omega, rfl⟩, Up.refl _⟩
  case round =>
    obtain ⟨k, m, L, lc, rs, rfl, rfl, hk, hm, hown, hrw, HF, hup⟩ := hrel
    by_cases hkk : k < n
    · have hun := unframe_any l (k : Int) wr hn
      rw [takeF_at l (by rw [← HL.out]; exact hk)] at hun
      have hst : ∃ f, n - k ≤ f ∧ replL l = (if (takeR (l.drop k)).1 = 0 then (stepL (rwl rs) (takeR (l.drop k)).2.1 (takeR (l.drop k)).2.2.1).bind fun s' => seqF stepL l f (k + (takeR (l.drop k)).2.2.2) s' else if (takeR (l.drop k)).1 = 4 then some (rwl rs, k) else none) := by
        obtain ⟨f, hf, h⟩ := HF.out
        match f, hf, h with
        | f + 1, hf, h =>
          refine ⟨f, by omega, ?_⟩
          rw [← h, seqF_stepB stepL l (by rw [← HL.out]; exact hkk)]
      have hbl : (takeR (l.drop k)).2.2.1.length ≤ n := by
        have := takeR_bl (l.drop k)
        rw [List.length_drop, ← HL.out] at this
        omega
      have hok : (takeR (l.drop k)).1 = 0 → 12 ≤ (takeR (l.drop k)).2.2.2 ∧ (takeR (l.drop k)).2.2.2 ≤ n - k := fun h => by
        obtain ⟨h1, h2, -⟩ := takeR_ok h
        rw [List.length_drop, ← HL.out] at h2
        exact ⟨h1, h2⟩
      generalize takeR (l.drop k) = T at *
      obtain ⟨te, tk, tb, tn⟩ := T
      (try dsimp only at hun hst hbl hok)
      obtain ⟨nx, hnx⟩ : ∃ q : Int, q = (if te = 0 then (k : Int) + (tn : Int) else 0) := ⟨_, rfl⟩
      rw [← hnx] at hun
      have HNX := Lib.hid hnx
      have HUN := Lib.hid hun
      clear hnx
      have HST := Lib.hid hst
      have HOK := Lib.hid hok
      clear hun hst hok HF
      go_wp2_with fail
      refine HUN.out.mono ?_
      rintro e w3 ⟨rfl, hu3⟩
      have hup3 := hup.trans hu3
      have hown3 : OwnRI w3 w.heap.size L m lc rs := hown.up hu3
      have hrw3 := hrw.up hu3
      clear HUN hown hrw
      by_cases h4 : te = 4
      · have c1 : ((te : Int) == 4) = true := by rw [beq_iff_eq]; omega
        have hres : replL l = some (rwl rs, k) := by
          obtain ⟨f, -, h⟩ := HST.out
          rw [h, if_neg (by omega), if_pos h4]
        have HRES := Lib.hid hres
        clear hres HST HOK h4
        go_wp2_with fail
        refine bodyPost_ret (v := .tuple #[.slice L m lc, .int .i64 (k : Int), .int .i64 0]) (by simp [results, Try.results18, go_sem]) rfl ?_
        rw [HRES.out]
        exact ⟨L, m, lc, rs, rfl, hown3, hrw3, rfl, hup3⟩
      have c1 : ((te : Int) == 4) = false := by rw [beq_eq_false_iff_ne]; omega
      by_cases h0 : te = 0
      · have c2 : ((te : Int) != 0) = false := by rw [bne_eq_false_iff_eq]; omega
        obtain ⟨q1, q2⟩ := HOK.out h0
        by_cases hk1 : tk = 1
        · have c3 : ((tk : Int) != 1) = false := by rw [bne_eq_false_iff_eq]; omega
          obtain rfl : nx = ((k + tn : Nat) : Int) := by rw [HNX.out, if_pos h0]; omega
          go_wp2_with fail
          refine (rread_any tb w3 (by omega)).mono ?_
          rintro e w4 ⟨Q, qn, qc, rfl, hoQ, hu4⟩
          obtain ⟨qe, ql, hq⟩ : ∃ a b, readL tb = (a, b) := ⟨_, _, rfl⟩
          have hsv : stepL (rwl rs) tk tb = if tk = 1 ∧ qe = 0 ∧ 0 < ql.length then some (rwl rs ++ [ql]) else none := by unfold stepL; rw [hq]
          rw [hq] at hoQ ⊢
          (try dsimp only at hoQ ⊢)
          have hqn := hoQ.len
          have hup4 := hup3.trans hu4
          have hown4 : OwnRI w4 w.heap.size L m lc rs := hown3.up hu4
          have hrw4 := hrw3.up hu4
          have hoQ2 := own_base hoQ hup3.size
          have HSV := Lib.hid hsv
          have HQN := Lib.hid hqn
          clear hq hsv hqn hown3 hrw3 hoQ
          by_cases hqe : qe = 0
          · have c4 : ((qe : Int) != 0) = false := by rw [bne_eq_false_iff_eq]; omega
            by_cases hq0 : qn = 0
            · have c5 : ((qn : Int) == 0) = true := by rw [beq_iff_eq]; omega
              have hb : replL l = none := by
                obtain ⟨f, -, h⟩ := HST.out
                rw [h, if_pos h0, HSV.out, if_neg (by have := HQN.out; omega)]
                rfl
              have HBAD := Lib.hid hb
              clear hb hqe hk1 hq0 h0 HST HOK HSV
              go_wp2_with fail
              refine bodyPost_ret (v := .tuple #[.slice none 0 0, .int .i64 0, .int .i64 9]) (by simp [results, Try.results18, go_sem]) rfl ?_
              exact ReplPost.no HBAD.out hup4
            · have c5 : ((qn : Int) == 0) = false := by rw [beq_eq_false_iff_ne]; omega
              have hs2 : ∃ f, n - (k + tn) < f ∧ seqF stepL l f (k + tn) (rwl rs ++ [ql]) = replL l := by
                obtain ⟨f, hf, h⟩ := HST.out
                refine ⟨f, by omega, ?_⟩
                rw [h, if_pos h0, HSV.out, if_pos ⟨hk1, hqe, by have := HQN.out; omega⟩]
                rfl
              have HS2 := Lib.hid hs2
              clear hs2 hqe hk1 hq0 h0 HST HOK HSV
              go_wp2_with (at_builtin; refine wpList_append_rd _ rowsIT (news := [Value.slice Q qn qc]) (World.ownsRow.alloc hown4 _) (Rd.box _ _ _) (by intro u hu; simp at hu; subst hu; rfl) (by omega) (by omega) (by simp; have := hup4.size; omega) rfl rfl rfl rfl ?_; intro v5 w5 hown5 hg5 hat5; obtain ⟨L5, lc5, rfl⟩ := own_form hown5)
              have hu5 : Up w w5 := (hup4.alloc _).grown hg5 (fun g hg => (hown4.lt g hg).1)
              have hrw5 : RwOwn w5 w.heap.size rs := keepR _ _ _ _ _ _ (World.ownsRow.alloc hown4 _) hg5 (hrw4.up ((Up.refl _).alloc _))
              have hq5 : OwnI w5 w.heap.size Q qn qc ql := own_far (World.ownsRow.alloc hown4 _) (World.ownsRow.alloc hoQ2 _) (by decide) hg5
              go_roundw
              case rel => exact ⟨k + tn, m + 1, L5, lc5, rs ++ [⟨Q, qn, qc, ql⟩], rfl, rfl, by omega, by omega, OwnRI.snoc hown5, hrw5.snoc hq5, by rw [rwl_snoc]; exact HS2, hu5⟩
              case measure => simp [intOf] <;> omega
          · have c4 : ((qe : Int) != 0) = true := by rw [bne_iff_ne]; omega
            have hb : replL l = none := by
              obtain ⟨f, -, h⟩ := HST.out
              rw [h, if_pos h0, HSV.out, if_neg (by omega)]
              rfl
            have HBAD := Lib.hid hb
            clear hb hqe hk1 h0 HST HOK HSV
            go_wp2_with fail
            refine bodyPost_ret (v := .tuple #[.slice none 0 0, .int .i64 0, .int .i64 9]) (by simp [results, Try.results18, go_sem]) rfl ?_
            exact ReplPost.no HBAD.out hup4
        · have c3 : ((tk : Int) != 1) = true := by rw [bne_iff_ne]; omega
          have hb : replL l = none := by
            obtain ⟨f, -, h⟩ := HST.out
            rw [h, if_pos h0]
            unfold stepL
            rw [if_neg (by omega)]
            rfl
          have HBAD := Lib.hid hb
          clear hb hk1 h0 HST HOK
          go_wp2_with fail
          refine bodyPost_ret (v := .tuple #[.slice none 0 0, .int .i64 0, .int .i64 9]) (by simp [results, Try.results18, go_sem]) rfl ?_
          exact ReplPost.no HBAD.out hup3
      · have c2 : ((te : Int) != 0) = true := by rw [bne_iff_ne]; omega
        have hb : replL l = none := by
          obtain ⟨f, -, h⟩ := HST.out
          rw [h, if_neg h0, if_neg h4]
        have HBAD := Lib.hid hb
        clear hb h0 h4 HST HOK
        go_wp2_with fail
        refine bodyPost_ret (v := .tuple #[.slice none 0 0, .int .i64 0, .int .i64 9]) (by simp [results, Try.results18, go_sem]) rfl ?_
        exact ReplPost.no HBAD.out hup3
    · have hke : k = n := by omega
      have hres : replL l = some (rwl rs, k) := by
        obtain ⟨f, -, h⟩ := HF.out
        rw [← h, seqF_stopG stepL l (by rw [← HL.out]; omega)]
      have HRES := Lib.hid hres
      clear hres HF hke
      go_wp2_with fail
      refine bodyPost_ret (v := .tuple #[.slice L m lc, .int .i64 (k : Int), .int .i64 0]) (by simp [results, Try.results18, go_sem]) rfl ?_
      rw [HRES.out]
      exact ⟨L, m, lc, rs, rfl, hown, hrw, rfl, hup⟩
end Go.Proofs.Ytnjmekjaingniaa

/-
  Rows of unlike types lie apart. No program is named here.
-/
namespace Go.Proofs.Ytnjmekjaingniaa
open Go.RowKit
set_option linter.unusedVariables false

/-- a row lies as it lay where another one of another type has grown -/
theorem own_apart {w w' : World} {base base' : Nat} {e e' : TypeId} {sz sz' n n' : Nat} {v v' : Value} {xs xs' : List Value} (h : w.ownsRow base e sz v n xs) (h2 : w.ownsRow base' e' sz' v' n' xs') (hne : e ≠ e') (hg : w.grownBy w' v'.ownBlock) : w'.ownsRow base e sz v n xs := by
  refine ⟨h.1, ?_⟩
  rcases h.2 with h3 | ⟨g, cap, cur, hv, hb, hh, r⟩
  · exact .inl h3
  · refine .inr ⟨g, cap, cur, hv, hb, (hg.block g (Array.getElem?_eq_some_iff.1 hh).1 (fun e9 => ?_)).trans hh, r⟩
    rcases h2.2 with ⟨h4, _⟩ | ⟨g', cap', cur', h4, _, hh', _⟩
    · rw [h4] at e9; cases e9
    · rw [h4] at e9
      simp only [Value.ownBlock, Option.some.injEq] at e9
      subst e9
      rw [hh] at hh'
      injection hh' with hh'
      injection hh' with q1 q2
      exact hne q2
end Go.Proofs.Ytnjmekjaingniaa

/-
  The disk: its plain state, and how it lies in memory.
-/
namespace Go.Proofs.Ytnjmekjaingniaa
open Go.RowKit Go.Maps
set_option linter.unusedVariables false
set_option linter.unusedSimpArgs false

/-! ### the plain state -/
abbrev Mp := DataW Unit
def nk (s : List UInt8) : Lit := .string s
def fiv (i : Nat) : Mp := .lit (.int .i64 (i : Int))
/-- every entry leads to one of the first n files -/
def MOk (D : Mp) (n : Nat) : Prop := Tidy D ∧ ∀ kl, Maps.has D kl = true → ∃ i < n, ∀ z, D.atKey kl z = fiv i
def mget (D : Mp) (s : List UInt8) : Nat := match D.atKey (nk s) (fiv 0) with | .lit (.int .i64 c) => c.toNat | _ => 0
structure Fi where
  b : List UInt8
  last : Nat
structure Tn where
  kind : Nat
  file : Nat
  a : List UInt8
  b : List UInt8
def Tn.cs (t : Tn) : List Value := [.int .i64 (t.kind : Int), .int .i64 (t.file : Int), .string (tx t.a), .string (tx t.b)]
def tcs (l : List Tn) : List Value := l.flatMap Tn.cs
structure Dk where
  quota : Nat
  files : List Fi
  names : Mp
  lasted : Mp
  turns : List Tn
  calls : Nat
  dead : Bool
  stop : Nat
  fail : Nat
structure DkOk (d : Dk) : Prop where
  nm : MOk d.names d.files.length
  la : MOk d.lasted d.files.length
  tn : ∀ t ∈ d.turns, t.file < d.files.length ∨ t.kind ≠ 1
  nf : d.files.length ≤ 1000000
  nt : d.turns.length ≤ 1000000
  sn : Maps.size d.names ≤ 1000000
  sl : Maps.size d.lasted ≤ 1000000
  fb : ∀ f ∈ d.files, f.b.length ≤ 250000 ∧ f.last ≤ f.b.length
  s : d.stop ≤ 9223372036854775807
  f : d.fail ≤ 9223372036854775807
  q : d.quota ≤ 9223372036854775807

/-! ### in memory -/
structure Fl where
  g : Nat
  A : Option Addr
  c : Nat
structure Hp where
  g : Nat
  fa : Option Addr
  fc : Nat
  fl : List Fl
  nb : Nat
  lb : Nat
  ta : Option Addr
  tc : Nat
def pfs (l : List Fl) : List Value := l.map fun f => .pointer (some ⟨f.g, 0, none⟩)
def inA (A : Option Addr) (k : Nat) : Prop := ∃ a, A = some a ∧ a.block = k
def foot (h : Hp) (k : Nat) : Prop := k = h.g ∨ k = h.nb ∨ k = h.lb ∨ inA h.fa k ∨ inA h.ta k ∨ ∃ f ∈ h.fl, k = f.g ∨ inA f.A k
def dcs (d : Dk) (h : Hp) : Array Value := #[.int .i64 (d.quota : Int), .slice h.fa d.files.length h.fc, .map (some h.nb), .map (some h.lb), .slice h.ta d.turns.length h.tc, .int .i64 (d.calls : Int), .bool d.dead, .int .i64 (d.stop : Int), .int .i64 (d.fail : Int)]
structure FileAt (B : Nat) (f : Fl) (x : Fi) (w : World) : Prop where
  blk : w.heap[f.g]? = some (.cells #[.slice f.A x.b.length f.c, .int .i64 (x.last : Int)] 93 (0, 0))
  own : OwnB w B f.A x.b.length f.c x.b
  base : B ≤ f.g
structure DiskAt (B : Nat) (h : Hp) (d : Dk) (w : World) : Prop where
  hd : w.heap[h.g]? = some (.cells (dcs d h) 86 (0, 0))
  base : B ≤ h.g
  files : w.ownsRow B 88 1 (.slice h.fa d.files.length h.fc) d.files.length (pfs h.fl)
  flen : h.fl.length = d.files.length
  each : ∀ (i : Nat) (f : Fl) (x : Fi), h.fl[i]? = some f → d.files[i]? = some x → FileAt B f x w
  apart : ∀ (i j : Nat) (f f' : Fl), i ≠ j → h.fl[i]? = some f → h.fl[j]? = some f' → f.g ≠ f'.g ∧ ∀ k, inA f.A k → ¬ inA f'.A k
  names : w.ownsMap Try.prog 9 (plainElem Try.prog 3) h.nb (Maps.size d.names) d.names
  lasted : w.ownsMap Try.prog 9 (plainElem Try.prog 3) h.lb (Maps.size d.lasted) d.lasted
  nl : h.nb ≠ h.lb
  nbase : B ≤ h.nb ∧ B ≤ h.lb
  turns : w.ownsRow B 91 4 (.slice h.ta d.turns.length h.tc) d.turns.length (tcs d.turns)

theorem own_keepsX {w w' : World} {base n c : Nat} {e : TypeId} {sz : Nat} {A : Option Addr} {xs : List Value} {X : Nat → Prop} (h : w.ownsRow base e sz (.slice A n c) n xs) (hK : Rg.Keeps X w w') (hx : ∀ k, inA A k → ¬ X k) : w'.ownsRow base e sz (.slice A n c) n xs := by
  refine ⟨h.1, ?_⟩
  rcases h.2 with h2 | ⟨g, cap, cur, hv, hg, hh, r⟩
  · exact .inl h2
  · refine .inr ⟨g, cap, cur, hv, hg, (hK.block g (Array.getElem?_eq_some_iff.1 hh).1 (hx g ?_)).trans hh, r⟩
    injection hv with hA
    exact ⟨_, hA, rfl⟩
theorem map_keepsX {w w' : World} {b n : Nat} {D : Mp} {X : Nat → Prop} (h : w.ownsMap Try.prog 9 (plainElem Try.prog 3) b n D) (hK : Rg.Keeps X w w') (hx : ¬ X b) : w'.ownsMap Try.prog 9 (plainElem Try.prog 3) b n D := by
  have hlt := h.lt
  obtain ⟨es, clock, hb, r⟩ := h
  exact ⟨es, clock, (hK.block b hlt hx).trans hb, r⟩
theorem map_tight {w : World} {b n : Nat} {D : Mp} (h : w.ownsMap Try.prog 9 (plainElem Try.prog 3) b n D) : w.ownsMap Try.prog 9 (plainElem Try.prog 3) b (Maps.size D) D := by
  obtain ⟨es, clock, hb, F, hs, rfl⟩ := h
  refine ⟨es, clock, hb, F, ?_, rfl⟩
  rw [Maps.size_eq, length_sorted]
  simp
theorem FileAt.keepsX {B : Nat} {f : Fl} {x : Fi} {w w' : World} {X : Nat → Prop} (h : FileAt B f x w) (hK : Rg.Keeps X w w') (h1 : ¬ X f.g) (h2 : ∀ k, inA f.A k → ¬ X k) : FileAt B f x w' :=
  ⟨(hK.block _ (Array.getElem?_eq_some_iff.1 h.blk).1 h1).trans h.blk, own_keepsX h.own hK h2, h.base⟩
theorem DiskAt.keepsX {B : Nat} {h : Hp} {d : Dk} {w w' : World} {X : Nat → Prop} (H : DiskAt B h d w) (hK : Rg.Keeps X w w') (hx : ∀ k, foot h k → ¬ X k) : DiskAt B h d w' where
  hd := (hK.block _ (Array.getElem?_eq_some_iff.1 H.hd).1 (hx _ (.inl rfl))).trans H.hd
  base := H.base
  files := own_keepsX H.files hK (fun k hk => hx k (.inr (.inr (.inr (.inl hk)))))
  flen := H.flen
  each := fun i f x hf hx2 => (H.each i f x hf hx2).keepsX hK (hx _ (.inr (.inr (.inr (.inr (.inr ⟨f, List.mem_of_getElem? hf, .inl rfl⟩)))))) (fun k hk => hx k (.inr (.inr (.inr (.inr (.inr ⟨f, List.mem_of_getElem? hf, .inr hk⟩))))))
  apart := H.apart
  names := map_keepsX H.names hK (hx _ (.inr (.inl rfl)))
  lasted := map_keepsX H.lasted hK (hx _ (.inr (.inr (.inl rfl))))
  nl := H.nl
  nbase := H.nbase
  turns := own_keepsX H.turns hK (fun k hk => hx k (.inr (.inr (.inr (.inr (.inl hk))))))
/-- all of it lies below the world's end, and from B on -/
theorem inA_own {w : World} {base n c : Nat} {e : TypeId} {sz : Nat} {A : Option Addr} {xs : List Value} (h : w.ownsRow base e sz (.slice A n c) n xs) {k : Nat} (hk : inA A k) : base ≤ k ∧ k < w.heap.size := by
  obtain ⟨a, rfl, rfl⟩ := hk
  exact h.lt a.block rfl
theorem DiskAt.lt {B : Nat} {h : Hp} {d : Dk} {w : World} (H : DiskAt B h d w) {k : Nat} (hk : foot h k) : B ≤ k ∧ k < w.heap.size := by
  rcases hk with rfl | rfl | rfl | hk | hk | ⟨f, hf, hk⟩
  · exact ⟨H.base, (Array.getElem?_eq_some_iff.1 H.hd).1⟩
  · exact ⟨H.nbase.1, H.names.lt⟩
  · exact ⟨H.nbase.2, H.lasted.lt⟩
  · exact inA_own H.files hk
  · exact inA_own H.turns hk
  · obtain ⟨i, hi, rfl⟩ := List.getElem_of_mem hf
    have hl := H.flen
    have hF := H.each i h.fl[i] (d.files[i]'(by omega)) (List.getElem?_eq_getElem hi) (List.getElem?_eq_getElem (by omega))
    rcases hk with rfl | hk
    · exact ⟨hF.base, (Array.getElem?_eq_some_iff.1 hF.blk).1⟩
    · exact inA_own hF.own hk
theorem DiskAt.up {B : Nat} {h : Hp} {d : Dk} {w w' : World} (H : DiskAt B h d w) (hu : Up w w') : DiskAt B h d w' :=
  H.keepsX (X := fun k => ¬ k < w.heap.size) ⟨hu.os, hu.tape, hu.output, hu.size, fun k hk _ => hu.block k hk⟩ (fun k hk hn => hn (H.lt hk).2)
/-- what an operation of the disk does to memory -/
structure DkTo (h : Hp) (w : World) (h' : Hp) (w' : World) : Prop where
  g : h'.g = h.g
  kept : Rg.Keeps (foot h) w w'
  foot : ∀ k, foot h' k → foot h k ∨ w.heap.size ≤ k
theorem DkTo.refl (h : Hp) (w : World) : DkTo h w h w := ⟨rfl, Rg.Keeps.refl _ _, fun k hk => .inl hk⟩
theorem Keeps.trans2 {X : Nat → Prop} {a b c : World} (h : Rg.Keeps X a b) (k : Rg.Keeps X b c) : Rg.Keeps X a c :=
  ⟨k.os.trans h.os, k.tape.trans h.tape, k.output.trans h.output, Nat.le_trans h.size k.size, fun i hi hx => (k.block i (Nat.lt_of_lt_of_le hi h.size) hx).trans (h.block i hi hx)⟩
theorem DkTo.trans {h h' h'' : Hp} {w w' w'' : World} (x : DkTo h w h' w') (y : DkTo h' w' h'' w'') : DkTo h w h'' w'' := by
  refine ⟨y.g.trans x.g, ⟨y.kept.os.trans x.kept.os, y.kept.tape.trans x.kept.tape, y.kept.output.trans x.kept.output, Nat.le_trans x.kept.size y.kept.size, fun i hi hx => ?_⟩, fun k hk => ?_⟩
  · refine (y.kept.block i (Nat.lt_of_lt_of_le hi x.kept.size) (fun hf => ?_)).trans (x.kept.block i hi hx)
    rcases x.foot i hf with h1 | h1
    · exact hx h1
    · omega
  · rcases y.foot k hk with h1 | h1
    · exact x.foot k h1
    · exact .inr (Nat.le_trans x.kept.size h1)
theorem DkTo.up {h : Hp} {w w' : World} (hu : Up w w') : DkTo h w h w' := ⟨rfl, Rg.Keeps.of_up hu, fun k hk => .inl hk⟩
/-- what the disk does keeps all that lies below where it begins -/
theorem DkTo.below {B : Nat} {h h' : Hp} {d : Dk} {w0 w w' : World} (x : DkTo h w h' w') (H : DiskAt B h d w) (hB : w0.heap.size ≤ B) (hu : Up w0 w) : Up w0 w' :=
  ⟨x.kept.os.trans hu.os, x.kept.tape.trans hu.tape, x.kept.output.trans hu.output, Nat.le_trans hu.size x.kept.size, fun k hk => (x.kept.block k (Nat.lt_of_lt_of_le hk hu.size) (fun hf => by have := (H.lt hf).1; omega)).trans (hu.block k hk)⟩
/-- the head alone has turned -/
theorem DiskAt.head {B : Nat} {h : Hp} {d d' : Dk} {w w' : World} (H : DiskAt B h d w) (hK : Rg.Keeps (fun k => k = h.g) w w') (hd : w'.heap[h.g]? = some (.cells (dcs d' h) 86 (0, 0)))
    (e1 : d'.files = d.files) (e2 : d'.names = d.names) (e3 : d'.lasted = d.lasted) (e4 : d'.turns = d.turns) : DiskAt B h d' w' := by
  have hne : ∀ k o, w.heap[k]? = some o → o ≠ .cells (dcs d h) 86 (0, 0) → ¬ k = h.g := fun k o h1 h2 e => by
    subst e
    rw [H.hd] at h1
    injection h1 with h1
    exact h2 h1.symm
  have hrow : ∀ {n c : Nat} {e : TypeId} {sz : Nat} {A : Option Addr} {xs : List Value}, w.ownsRow B e sz (.slice A n c) n xs → e ≠ 86 → ∀ k, inA A k → ¬ k = h.g := by
    intro n c e sz A xs h1 h2 k hk
    obtain ⟨a, rfl, rfl⟩ := hk
    rcases h1.2 with ⟨hv, _⟩ | ⟨g, cap, cur, hv, hg, hh, r⟩
    · cases hv
    · injection hv with hA
      injection hA with hA
      subst hA
      refine hne _ _ hh (fun e9 => ?_)
      injection e9 with _ e9
      exact h2 e9
  refine ⟨hd, H.base, ?_, by rw [e1]; exact H.flen, fun i f x hf hx => ?_, H.apart, ?_, ?_, H.nl, H.nbase, ?_⟩
  · rw [e1]; exact own_keepsX H.files hK (hrow H.files (by decide))
  · rw [e1] at hx
    have hF := H.each i f x hf hx
    refine hF.keepsX hK (hne _ _ hF.blk (fun e9 => ?_)) (hrow hF.own (by decide))
    injection e9 with _ e9
    exact absurd e9 (by decide)
  · rw [e2]
    refine map_keepsX H.names hK (fun e9 => ?_)
    obtain ⟨es, clock, hb, _⟩ := H.names
    exact hne _ _ hb (by intro e8; cases e8) e9
  · rw [e3]
    refine map_keepsX H.lasted hK (fun e9 => ?_)
    obtain ⟨es, clock, hb, _⟩ := H.lasted
    exact hne _ _ hb (by intro e8; cases e8) e9
  · rw [e4]; exact own_keepsX H.turns hK (hrow H.turns (by decide))
end Go.Proofs.Ytnjmekjaingniaa

/-
  The walks of the disk's named, Dead, call, and of what it takes of sync/atomic.
-/
namespace Go.Proofs.Ytnjmekjaingniaa
open Go.RowKit Go.Maps
set_option linter.unusedVariables false
set_option linter.unusedSimpArgs false

def nameC (c : UInt8) : Bool := (decide (97 ≤ c.toNat) && decide (c.toNat ≤ 122)) || (decide (48 ≤ c.toNat) && decide (c.toNat ≤ 57)) || decide (c.toNat = 46)
def nameB (l : List UInt8) : Bool := decide (1 ≤ l.length) && (decide (l.length ≤ 16) && l.all nameC)
theorem nameB_bad {l : List UInt8} {k : Nat} (hk : k < l.length) (h : nameC (l.getD k 0) = false) : nameB l = false := by
  have hg : l.getD k 0 = l[k] := by rw [List.getD_eq_getElem?_getD, List.getElem?_eq_getElem hk]; rfl
  rw [hg] at h
  have : l.all nameC = false := by
    rw [List.all_eq_false]
    exact ⟨l[k], List.getElem_mem _, by rw [h]; decide⟩
  unfold nameB
  rw [this]
  simp
theorem nameB_good {l : List UInt8} (h1 : 1 ≤ l.length) (h2 : l.length ≤ 16) (h : ∀ j, j < l.length → nameC (l.getD j 0) = true) : nameB l = true := by
  have : l.all nameC = true := by
    rw [List.all_eq_true]
    intro c hc
    obtain ⟨j, hj, rfl⟩ := List.getElem_of_mem hc
    have := h j hj
    rwa [List.getD_eq_getElem?_getD, List.getElem?_eq_getElem hj] at this
  unfold nameB
  rw [this]
  simp
  omega
theorem getD_strD {s : ByteArray} {l : List UInt8} (hs : s.data.toList = l) {k : Nat} (hk : k < s.size) : s[k] = l.getD k 0 := by
  subst hs
  have h : k < s.data.size := hk
  show s.data[k] = _
  simp only [List.getD, Array.getElem?_toList, Array.getElem?_eq_getElem h, Option.getD_some]
set_option maxRecDepth 100000 in
set_option maxHeartbeats 1600000 in
theorem named_at (s : ByteArray) (l : List UInt8) (w : World) (hs : s.data.toList = l) (hn : s.size ≤ 9223372036854775807) :
    Calls Try.prog 46 #[.string s] w fun e w' => e = .returned (.bool (nameB l)) ∧ w = w' := by
  have hz : s.size = l.length := by subst hs; rfl
  have HS := Lib.hid hs
  have HZ := Lib.hid hz
  clear hs hz
  by_cases h1 : s.size < 1
  · have hb : nameB l = false := by unfold nameB; rw [decide_eq_false (by have := HZ.out; omega)]; rfl
    have HB := Lib.hid hb
    clear hb
    go_enter Try.func46, Try.ntmps46
    have h1i : (s.size : Int) < 1 := by omega
    go_wp2_with fail
    go_ret
    rw [HB.out]
    exact ⟨rfl, rfl⟩
  by_cases h2 : 16 < s.size
  · have hb : nameB l = false := by unfold nameB; rw [decide_eq_false (show ¬ l.length ≤ 16 by have := HZ.out; omega)]; simp
    have HB := Lib.hid hb
    clear hb
    have h1i : ¬ (s.size : Int) < 1 := by omega
    have h2i : (16 : Int) < (s.size : Int) := by omega
    go_enter Try.func46, Try.ntmps46
    go_wp2_with fail
    go_ret
    rw [HB.out]
    exact ⟨rfl, rfl⟩
  have h1i : ¬ (s.size : Int) < 1 := by omega
  have h2i : ¬ (16 : Int) < (s.size : Int) := by omega
  go_enter Try.func46, Try.ntmps46
  go_wp2_with fail
  go_loop [15] (fun i => ∃ k : Nat, i = .int .i64 (k : Int) ∧ k ≤ s.size ∧ Hid (∀ j, j < k → nameC (l.getD j 0) = true)) (fun i => s.size - (intOf i).toNat)
  case atStart => exact ⟨0, rfl, by omega, fun j hj => by omega⟩
  case round =>
    obtain ⟨k, rfl, hk, hok⟩ := hrel
    by_cases hlt : k < s.size
    · have hbl : k < l.length := by have := HZ.out; omega
      have hgd := getD_strD HS.out hlt
      have HBAD := Lib.hid (@nameB_bad l k hbl)
      have HOK2 : Hid (nameC (l.getD k 0) = true → ∀ j, j < k + 1 → nameC (l.getD j 0) = true) := fun h j hj => by
        by_cases hjk : j = k
        · subst hjk; exact h
        · exact hok.out j (by omega)
      generalize l.getD k 0 = ch at *
      have hcb := ch.toNat_lt
      have hlti : (k : Int) < (s.size : Int) := by omega
      have HC : nameC ch = (decide (97 ≤ ch.toNat) && decide (ch.toNat ≤ 122) || (decide (48 ≤ ch.toNat) && decide (ch.toNat ≤ 57)) || decide (ch.toNat = 46)) := rfl
      cases hc : nameC ch with
      | true =>
        have HOK3 := Lib.hid (HOK2.out hc)
        have hcs : (97 ≤ ch.toNat ∧ ch.toNat ≤ 122) ∨ (48 ≤ ch.toNat ∧ ch.toNat ≤ 57) ∨ ch.toNat = 46 := by
          rw [hc] at HC
          have := HC.symm
          simp only [Bool.or_eq_true, Bool.and_eq_true, decide_eq_true_eq] at this
          omega
        clear HC hc HOK2 HBAD
        go_wp2_with fail
        all_goals first
          | (exfalso; simp only [bne_iff_ne, ne_eq, bne_eq_false_iff_eq] at *; omega)
          | (go_round
             case rel => exact ⟨k + 1, by go_num, by omega, HOK3⟩
             case measure => simp [intOf]; omega)
      | false =>
        have HB2 := Lib.hid (HBAD.out hc)
        have hcs : ¬ (97 ≤ ch.toNat ∧ ch.toNat ≤ 122) ∧ ¬ (48 ≤ ch.toNat ∧ ch.toNat ≤ 57) ∧ ¬ ch.toNat = 46 := by
          rw [hc] at HC
          have := HC.symm
          simp only [Bool.or_eq_false_iff, Bool.and_eq_false_iff, decide_eq_false_iff_not] at this
          omega
        clear HC hc HOK2 HBAD
        go_wp2_with fail
        all_goals first
          | (exfalso; simp only [bne_iff_ne, ne_eq, bne_eq_false_iff_eq] at *; omega)
          | (go_ret; rw [HB2.out]; exact ⟨rfl, rfl⟩)
    · have hlti : ¬ (k : Int) < (s.size : Int) := by omega
      have hb : nameB l = true := nameB_good (by have := HZ.out; omega) (by have := HZ.out; omega) (fun j hj => hok.out j (by have := HZ.out; omega))
      have HB := Lib.hid hb
      clear hb
      go_wp2_with fail
      go_ret
      rw [HB.out]
      exact ⟨rfl, rfl⟩
theorem named_any (l : List UInt8) (w : World) (hn : l.length ≤ 9223372036854775807) : Calls Try.prog 46 #[.string (tx l)] w fun e w' => e = .returned (.bool (nameB l)) ∧ w = w' :=
  named_at (tx l) l w (tx_list l) (by rw [tx_size]; exact hn)

theorem iadd_any (g o : Nat) (x y : Int) (w : World) (hc : w.cell? ⟨g, o, none⟩ = some (.int .i64 x)) (hz : w.frozen? ⟨g, o, none⟩ = false) (hb : -9223372036854775808 ≤ x + y ∧ x + y ≤ 9223372036854775807) :
    Calls Try.prog 49 #[.pointer (some ⟨g, o, none⟩), .int .i64 y] w fun e w' => e = .returned (.int .i64 (x + y)) ∧ w' = w.setCell ⟨g, o, none⟩ (.int .i64 (x + y)) := by
  have hwr : IntKind.i64.wrap (x + y) = x + y := IntWalk.i64_in _ hb
  have hadd := run_call_add (P := Try.prog) Try.func73 (by kernel_rfl) (by kernel_rfl) (by kernel_rfl) .i64 (by kernel_rfl) (y := y) (s := x + y) hc hz (by simp [go_sem]; exact hwr)
  clear hwr
  go_enter Try.func49, Try.ntmps49
  go_wp2_with fail
  go_ret
  exact ⟨rfl, rfl⟩
theorem iload_any (g o : Nat) (x : Int) (w : World) (hc : w.cell? ⟨g, o, none⟩ = some (.int .i64 x)) :
    Calls Try.prog 50 #[.pointer (some ⟨g, o, none⟩)] w fun e w' => e = .returned (.int .i64 x) ∧ w' = w := by
  have hl := run_call_load (P := Try.prog) Try.func74 (by kernel_rfl) (by kernel_rfl) (by kernel_rfl) .i64 (by kernel_rfl) hc
  go_enter Try.func50, Try.ntmps50
  go_wp2_with fail
  go_ret
  exact ⟨rfl, rfl⟩
theorem dead_any {B : Nat} {h : Hp} {d : Dk} {w : World} (H : DiskAt B h d w) : Calls Try.prog 47 #[.pointer (some ⟨h.g, 0, none⟩)] w fun e w' => e = .returned (.bool d.dead) ∧ w' = w := by
  have hc := blk_cell H.hd 6
  replace hc : w.cell? ⟨h.g, 6, none⟩ = some (.bool d.dead) := hc
  go_enter Try.func47, Try.ntmps47
  go_wp2_with fail
  go_ret
  exact ⟨rfl, rfl⟩
end Go.Proofs.Ytnjmekjaingniaa

/-
  The walks of the disk's call and find, of Stop and Fail.
-/
namespace Go.Proofs.Ytnjmekjaingniaa
open Go.RowKit Go.Maps
set_option linter.unusedVariables false
set_option linter.unusedSimpArgs false

def callS (d : Dk) : Dk := if d.stop = 0 then d else { d with stop := d.stop - 1, dead := decide (d.stop - 1 = 0) }
def callD (d : Dk) : Dk × Nat :=
  if d.dead = true then ({ d with calls := d.calls + 1 }, 50)
  else if d.fail = 0 then (callS { d with calls := d.calls + 1 }, 0)
  else if d.fail = 1 then ({ callS { d with calls := d.calls + 1 } with fail := 0 }, 15)
  else ({ callS { d with calls := d.calls + 1 } with fail := d.fail - 1 }, 0)
def callN (L : List (List UInt8)) (d : Dk) : Dk × Nat := if L.all nameB = true then callD d else (d, 10)
theorem callS_same (d : Dk) : (callS d).files = d.files ∧ (callS d).names = d.names ∧ (callS d).lasted = d.lasted ∧ (callS d).turns = d.turns ∧ (callS d).quota = d.quota ∧ (callS d).calls = d.calls ∧ (callS d).stop ≤ d.stop ∧ (callS d).fail = d.fail := by
  unfold callS
  split
  · exact ⟨rfl, rfl, rfl, rfl, rfl, rfl, Nat.le_refl _, rfl⟩
  · exact ⟨rfl, rfl, rfl, rfl, rfl, rfl, Nat.sub_le _ _, rfl⟩
theorem callD_same (d : Dk) : (callD d).1.files = d.files ∧ (callD d).1.names = d.names ∧ (callD d).1.lasted = d.lasted ∧ (callD d).1.turns = d.turns ∧ (callD d).1.quota = d.quota ∧ (callD d).1.calls = d.calls + 1 ∧ (callD d).1.stop ≤ d.stop ∧ (callD d).1.fail ≤ d.fail := by
  have h := callS_same { d with calls := d.calls + 1 }
  simp only [] at h
  obtain ⟨h1, h2, h3, h4, h5, h6, h7, h8⟩ := h
  unfold callD
  split
  · exact ⟨rfl, rfl, rfl, rfl, rfl, rfl, Nat.le_refl _, Nat.le_refl _⟩
  · split
    · exact ⟨h1, h2, h3, h4, h5, h6, h7, Nat.le_of_eq h8⟩
    · split
      · exact ⟨h1, h2, h3, h4, h5, h6, h7, Nat.zero_le _⟩
      · exact ⟨h1, h2, h3, h4, h5, h6, h7, Nat.sub_le _ _⟩
theorem callN_same (L : List (List UInt8)) (d : Dk) : (callN L d).1.files = d.files ∧ (callN L d).1.names = d.names ∧ (callN L d).1.lasted = d.lasted ∧ (callN L d).1.turns = d.turns ∧ (callN L d).1.quota = d.quota ∧ (callN L d).1.calls ≤ d.calls + 1 ∧ (callN L d).1.stop ≤ d.stop ∧ (callN L d).1.fail ≤ d.fail := by
  unfold callN
  split
  · have h := callD_same d
    exact ⟨h.1, h.2.1, h.2.2.1, h.2.2.2.1, h.2.2.2.2.1, Nat.le_of_eq h.2.2.2.2.2.1, h.2.2.2.2.2.2⟩
  · exact ⟨rfl, rfl, rfl, rfl, rfl, Nat.le_succ _, Nat.le_refl _, Nat.le_refl _⟩
theorem callN_ok {L : List (List UInt8)} {d : Dk} (h : DkOk d) : DkOk (callN L d).1 := by
  obtain ⟨h1, h2, h3, h4, h5, h6, h7, h8⟩ := callN_same L d
  refine ⟨by rw [h1, h2]; exact h.nm, by rw [h1, h3]; exact h.la, by rw [h1, h4]; exact h.tn, by rw [h1]; exact h.nf, by rw [h4]; exact h.nt, by rw [h2]; exact h.sn, by rw [h3]; exact h.sl, by rw [h1]; exact h.fb, Nat.le_trans h7 h.s, Nat.le_trans h8 h.f, by rw [h5]; exact h.q⟩
def svs (L : List (List UInt8)) : List Value := L.map fun s => .string (tx s)
theorem DiskAt.setHead {B : Nat} {h : Hp} {d : Dk} (d' : Dk) {w : World} (H : DiskAt B h d w) (i : Nat) (v : Value) (hv : (dcs d h).setIfInBounds i v = dcs d' h) (e1 : d'.files = d.files) (e2 : d'.names = d.names) (e3 : d'.lasted = d.lasted) (e4 : d'.turns = d.turns) :
    DiskAt B h d' (w.setCell ⟨h.g, i, none⟩ v) ∧ DkTo h w h (w.setCell ⟨h.g, i, none⟩ v) := by
  have hK : Rg.Keeps (fun k => k = h.g) w (w.setCell ⟨h.g, i, none⟩ v) := setc_keeps _ _ _ _ _ (Rg.Keeps.refl _ _)
  refine ⟨H.head hK ?_ e1 e2 e3 e4, rfl, Keeps.weak hK (fun k hk => .inl hk), fun k hk => .inl hk⟩
  rw [setc_heap w h.g i v _ _ H.hd, hv]
set_option maxRecDepth 100000 in
set_option maxHeartbeats 1600000 in
theorem call_any {B : Nat} {h : Hp} {d : Dk} {w : World} (H : DiskAt B h d w) (hok : DkOk d) (hcl : d.calls ≤ 1000000000) (L : List (List UInt8)) (A : Option Addr) (n c : Nat) (hr : Rd w w.heap.size 1 A n (svs L)) (hl : ∀ s ∈ L, s.length ≤ 9223372036854775807) (hn : n ≤ 1000) :
    Calls Try.prog 42 #[.pointer (some ⟨h.g, 0, none⟩), .slice A n c] w fun e w' => e = .returned (.int .i64 ((callN L d).2 : Int)) ∧ DiskAt B h (callN L d).1 w' ∧ DkTo h w h w' := by
  obtain ⟨quota, files, names, lasted, turns, calls, dead, stop, fail⟩ := d
  (try dsimp only at hcl)
  have hnl : n = L.length := by have := hr.1; simp [svs] at this; omega
  have HNL := Lib.hid hnl
  have hbs : stop ≤ 9223372036854775807 := hok.s
  have hbf : fail ≤ 9223372036854775807 := hok.f
  have c5 : w.cell? ⟨h.g, 5, none⟩ = some (.int .i64 (calls : Int)) := blk_cell H.hd 5
  have z5 := blk_free H.hd 5
  have hadd := fun (W : World) (hc : W.cell? ⟨h.g, 5, none⟩ = some (.int .i64 (calls : Int))) (hz : W.frozen? ⟨h.g, 5, none⟩ = false) => iadd_any h.g 5 (calls : Int) 1 W hc hz (by omega)
  have HADD := Lib.hid hadd
  clear hnl hadd
  go_enter Try.func42, Try.ntmps42
  go_wp2_with fail
  go_loopw [9] (fun i wr => ∃ k : Nat, i = .int .i64 (k : Int) ∧ k ≤ n ∧ wr = w ∧ Hid ((L.take k).all nameB = true)) (fun i _ => n - (intOf i).toNat)
  case atStart => exact ⟨0, rfl, by omega, rfl, rfl⟩
  case round =>
    obtain ⟨k, rfl, hk, rfl, hall⟩ := hrel
    by_cases hlt : k < n
    · have hkl : k < L.length := by have := HNL.out; omega
      obtain ⟨b, o, rfl, hb, hcell⟩ := hr.2 (by omega)
      have hc := hcell k (.string (tx L[k])) (by simp [svs, hkl])
      have hlk := hl L[k] (List.getElem_mem _)
      have hsn : (L.take (k + 1)).all nameB = ((L.take k).all nameB && nameB L[k]) := by rw [List.take_add_one, List.all_append, List.getElem?_eq_getElem hkl]; simp
      have hbad : nameB L[k] = false → L.all nameB = false := fun h9 => by
        rw [List.all_eq_false]
        exact ⟨_, List.getElem_mem hkl, by rw [h9]; decide⟩
      have HSN := Lib.hid hsn
      have HBAD := Lib.hid hbad
      have hlti : (k : Int) < (n : Int) := by omega
      generalize L[k] = s at *
      clear hsn hbad hcell
      go_wp2_with fail
      refine (named_any s _ hlk).mono ?_
      rintro e w1 ⟨rfl, rfl⟩
      cases hnb : nameB s with
      | true =>
        have hall2 : Hid ((L.take (k + 1)).all nameB = true) := by
          show _ = _
          rw [HSN.out, hall.out, hnb]; rfl
        clear hnb
        go_wp2_with fail
        go_roundw
        case rel => exact ⟨k + 1, by go_num, by omega, by trivial, hall2⟩
        case measure => simp [intOf]; omega
      | false =>
        have hcn : callN L ⟨quota, files, names, lasted, turns, calls, dead, stop, fail⟩ = (⟨quota, files, names, lasted, turns, calls, dead, stop, fail⟩, 10) := by unfold callN; rw [HBAD.out hnb]; rfl
        have HCN := Lib.hid hcn
        clear hnb hcn
        go_wp2_with fail
        go_ret
        rw [HCN.out]
        exact ⟨rfl, H, DkTo.refl _ _⟩
    · have hlti : ¬ (k : Int) < (n : Int) := by omega
      have hcn : callN L ⟨quota, files, names, lasted, turns, calls, dead, stop, fail⟩ = callD ⟨quota, files, names, lasted, turns, calls, dead, stop, fail⟩ := by
        unfold callN
        have h9 := hall.out
        rw [List.take_of_length_le (by have := HNL.out; omega)] at h9
        rw [if_pos h9]
      have HCN := Lib.hid hcn
      clear hcn
      go_wp2_with fail
      refine (HADD.out _ c5 z5).mono ?_
      rintro e w1 ⟨rfl, rfl⟩
      obtain ⟨H1, D1⟩ := H.setHead ⟨quota, files, names, lasted, turns, calls + 1, dead, stop, fail⟩ 5 (.int .i64 ((calls : Int) + 1)) (by simp [dcs]) rfl rfl rfl rfl
      clear c5 z5 hr HADD hok hall
      generalize wr.setCell ⟨h.g, 5, none⟩ (.int .i64 ((calls : Int) + 1)) = w1 at *
      go_wp2_with fail
      refine (dead_any H1).mono ?_
      rintro e w2 ⟨rfl, rfl⟩
      (try dsimp only)
      cases dead with
      | true =>
        go_wp2_with fail
        go_ret
        rw [HCN.out]
        exact ⟨rfl, H1, D1⟩
      | false =>
        have c7 : w2.cell? ⟨h.g, 7, none⟩ = some (.int .i64 (stop : Int)) := blk_cell H1.hd 7
        have z7 := blk_free H1.hd 7
        have c6 : w2.cell? ⟨h.g, 6, none⟩ = some (.bool false) := blk_cell H1.hd 6
        have z6 := blk_free H1.hd 6
        have c8 : w2.cell? ⟨h.g, 8, none⟩ = some (.int .i64 (fail : Int)) := blk_cell H1.hd 8
        have z8 := blk_free H1.hd 8
        by_cases hs : stop = 0
        · have hsi : ¬ (0 : Int) < (stop : Int) := by omega
          have hcd : callS ⟨quota, files, names, lasted, turns, calls + 1, false, stop, fail⟩ = ⟨quota, files, names, lasted, turns, calls + 1, false, stop, fail⟩ := by unfold callS; rw [if_pos hs]
          have HS := Lib.hid hs
          have HCD := Lib.hid hcd
          clear hs hcd
          by_cases hf : fail = 0
          · have hfi : ¬ (0 : Int) < (fail : Int) := by omega
            have hrs : callD ⟨quota, files, names, lasted, turns, calls, false, stop, fail⟩ = (⟨quota, files, names, lasted, turns, calls + 1, false, stop, fail⟩, 0) := by
              unfold callD
              rw [if_neg (by simp), if_pos hf, HCD.out]
            have HRS := Lib.hid hrs
            clear hrs hf
            go_wp2_with fail
            go_ret
            rw [HCN.out, HRS.out]
            exact ⟨rfl, H1, D1⟩
          · have hfi : (0 : Int) < (fail : Int) := by omega
            obtain ⟨H3, D3⟩ := (H1).setHead ⟨quota, files, names, lasted, turns, calls + 1, false, stop, fail - 1⟩ 8 (.int .i64 ((fail : Int) - 1)) (by simp [dcs]; omega) rfl rfl rfl rfl
            have y8 : ((w2).setCell ⟨h.g, 8, none⟩ (.int .i64 ((fail : Int) - 1))).cell? ⟨h.g, 8, none⟩ = some (.int .i64 ((fail : Int) - 1)) := by
              have h9 := blk_cell H3.hd 8
              rw [h9]
              simp [dcs]
              omega
            by_cases hf1 : fail = 1
            · have hfb : ((fail : Int) - 1 == 0) = true := by rw [beq_iff_eq]; omega
              have hrs : callD ⟨quota, files, names, lasted, turns, calls, false, stop, fail⟩ = (⟨quota, files, names, lasted, turns, calls + 1, false, stop, fail - 1⟩, 15) := by
                unfold callD
                rw [if_neg (by simp), if_neg hf, if_pos hf1, HCD.out, hf1]
              have HRS := Lib.hid hrs
              clear hrs hf hf1
              go_wp2_with fail
              go_ret
              rw [HCN.out, HRS.out]
              exact ⟨rfl, H3, (D1).trans D3⟩
            · have hfb : ((fail : Int) - 1 == 0) = false := by rw [beq_eq_false_iff_ne]; omega
              have hrs : callD ⟨quota, files, names, lasted, turns, calls, false, stop, fail⟩ = (⟨quota, files, names, lasted, turns, calls + 1, false, stop, fail - 1⟩, 0) := by
                unfold callD
                rw [if_neg (by simp), if_neg hf, if_neg hf1, HCD.out]
              have HRS := Lib.hid hrs
              clear hrs hf hf1
              go_wp2_with fail
              go_ret
              rw [HCN.out, HRS.out]
              exact ⟨rfl, H3, (D1).trans D3⟩
        · have hsi : (0 : Int) < (stop : Int) := by omega
          obtain ⟨H2, D2⟩ := H1.setHead ⟨quota, files, names, lasted, turns, calls + 1, false, stop - 1, fail⟩ 7 (.int .i64 ((stop : Int) - 1)) (by simp [dcs]; omega) rfl rfl rfl rfl
          have y7 : (w2.setCell ⟨h.g, 7, none⟩ (.int .i64 ((stop : Int) - 1))).cell? ⟨h.g, 7, none⟩ = some (.int .i64 ((stop : Int) - 1)) := by
            rw [blk_cell H2.hd 7]
            simp [dcs]
            omega
          have y6 : (w2.setCell ⟨h.g, 7, none⟩ (.int .i64 ((stop : Int) - 1))).cell? ⟨h.g, 6, none⟩ = some (.bool false) := blk_cell H2.hd 6
          have x6 := blk_free H2.hd 6
          by_cases hs1 : stop = 1
          · have hsb : ((stop : Int) - 1 == 0) = true := by rw [beq_iff_eq]; omega
            have hcd : callS ⟨quota, files, names, lasted, turns, calls + 1, false, stop, fail⟩ = ⟨quota, files, names, lasted, turns, calls + 1, true, stop - 1, fail⟩ := by
              unfold callS
              rw [if_neg hs]
              simp
              omega
            obtain ⟨H4, D4⟩ := H2.setHead ⟨quota, files, names, lasted, turns, calls + 1, true, stop - 1, fail⟩ 6 (.bool true) rfl rfl rfl rfl rfl
            have HCD := Lib.hid hcd
            have D14 := D1.trans (D2.trans D4)
            have HSX := Lib.hid hs1
            clear hcd hs hs1
            have x8 : ((w2.setCell ⟨h.g, 7, none⟩ (.int .i64 ((stop : Int) - 1))).setCell ⟨h.g, 6, none⟩ (.bool true)).cell? ⟨h.g, 8, none⟩ = some (.int .i64 (fail : Int)) := blk_cell H4.hd 8
            have w8 := blk_free H4.hd 8
            by_cases hf : fail = 0
            · have hfi : ¬ (0 : Int) < (fail : Int) := by omega
              have hrs : callD ⟨quota, files, names, lasted, turns, calls, false, stop, fail⟩ = (⟨quota, files, names, lasted, turns, calls + 1, true, stop - 1, fail⟩, 0) := by
                unfold callD
                rw [if_neg (by simp), if_pos hf, HCD.out]
              have HRS := Lib.hid hrs
              clear hrs hf
              go_wp2_with fail
              go_ret
              rw [HCN.out, HRS.out]
              exact ⟨rfl, H4, D14⟩
            · have hfi : (0 : Int) < (fail : Int) := by omega
              obtain ⟨H3, D3⟩ := (H4).setHead ⟨quota, files, names, lasted, turns, calls + 1, true, stop - 1, fail - 1⟩ 8 (.int .i64 ((fail : Int) - 1)) (by simp [dcs]; omega) rfl rfl rfl rfl
              have y8 : (((w2.setCell ⟨h.g, 7, none⟩ (.int .i64 ((stop : Int) - 1))).setCell ⟨h.g, 6, none⟩ (.bool true)).setCell ⟨h.g, 8, none⟩ (.int .i64 ((fail : Int) - 1))).cell? ⟨h.g, 8, none⟩ = some (.int .i64 ((fail : Int) - 1)) := by
                have h9 := blk_cell H3.hd 8
                rw [h9]
                simp [dcs]
                omega
              by_cases hf1 : fail = 1
              · have hfb : ((fail : Int) - 1 == 0) = true := by rw [beq_iff_eq]; omega
                have hrs : callD ⟨quota, files, names, lasted, turns, calls, false, stop, fail⟩ = (⟨quota, files, names, lasted, turns, calls + 1, true, stop - 1, fail - 1⟩, 15) := by
                  unfold callD
                  rw [if_neg (by simp), if_neg hf, if_pos hf1, HCD.out, hf1]
                have HRS := Lib.hid hrs
                clear hrs hf hf1
                go_wp2_with fail
                go_ret
                rw [HCN.out, HRS.out]
                exact ⟨rfl, H3, (D14).trans D3⟩
              · have hfb : ((fail : Int) - 1 == 0) = false := by rw [beq_eq_false_iff_ne]; omega
                have hrs : callD ⟨quota, files, names, lasted, turns, calls, false, stop, fail⟩ = (⟨quota, files, names, lasted, turns, calls + 1, true, stop - 1, fail - 1⟩, 0) := by
                  unfold callD
                  rw [if_neg (by simp), if_neg hf, if_neg hf1, HCD.out]
                have HRS := Lib.hid hrs
                clear hrs hf hf1
                go_wp2_with fail
                go_ret
                rw [HCN.out, HRS.out]
                exact ⟨rfl, H3, (D14).trans D3⟩
          · have hsb : ((stop : Int) - 1 == 0) = false := by rw [beq_eq_false_iff_ne]; omega
            have hcd : callS ⟨quota, files, names, lasted, turns, calls + 1, false, stop, fail⟩ = ⟨quota, files, names, lasted, turns, calls + 1, false, stop - 1, fail⟩ := by
              unfold callS
              rw [if_neg hs]
              simp
              omega
            obtain ⟨H4, D4⟩ := H2.setHead ⟨quota, files, names, lasted, turns, calls + 1, false, stop - 1, fail⟩ 6 (.bool false) rfl rfl rfl rfl rfl
            have HCD := Lib.hid hcd
            have D14 := D1.trans (D2.trans D4)
            have HSX := Lib.hid hs1
            clear hcd hs hs1
            have x8 : ((w2.setCell ⟨h.g, 7, none⟩ (.int .i64 ((stop : Int) - 1))).setCell ⟨h.g, 6, none⟩ (.bool false)).cell? ⟨h.g, 8, none⟩ = some (.int .i64 (fail : Int)) := blk_cell H4.hd 8
            have w8 := blk_free H4.hd 8
            by_cases hf : fail = 0
            · have hfi : ¬ (0 : Int) < (fail : Int) := by omega
              have hrs : callD ⟨quota, files, names, lasted, turns, calls, false, stop, fail⟩ = (⟨quota, files, names, lasted, turns, calls + 1, false, stop - 1, fail⟩, 0) := by
                unfold callD
                rw [if_neg (by simp), if_pos hf, HCD.out]
              have HRS := Lib.hid hrs
              clear hrs hf
              go_wp2_with fail
              go_ret
              rw [HCN.out, HRS.out]
              exact ⟨rfl, H4, D14⟩
            · have hfi : (0 : Int) < (fail : Int) := by omega
              obtain ⟨H3, D3⟩ := (H4).setHead ⟨quota, files, names, lasted, turns, calls + 1, false, stop - 1, fail - 1⟩ 8 (.int .i64 ((fail : Int) - 1)) (by simp [dcs]; omega) rfl rfl rfl rfl
              have y8 : (((w2.setCell ⟨h.g, 7, none⟩ (.int .i64 ((stop : Int) - 1))).setCell ⟨h.g, 6, none⟩ (.bool false)).setCell ⟨h.g, 8, none⟩ (.int .i64 ((fail : Int) - 1))).cell? ⟨h.g, 8, none⟩ = some (.int .i64 ((fail : Int) - 1)) := by
                have h9 := blk_cell H3.hd 8
                rw [h9]
                simp [dcs]
                omega
              by_cases hf1 : fail = 1
              · have hfb : ((fail : Int) - 1 == 0) = true := by rw [beq_iff_eq]; omega
                have hrs : callD ⟨quota, files, names, lasted, turns, calls, false, stop, fail⟩ = (⟨quota, files, names, lasted, turns, calls + 1, false, stop - 1, fail - 1⟩, 15) := by
                  unfold callD
                  rw [if_neg (by simp), if_neg hf, if_pos hf1, HCD.out, hf1]
                have HRS := Lib.hid hrs
                clear hrs hf hf1
                go_wp2_with fail
                go_ret
                rw [HCN.out, HRS.out]
                exact ⟨rfl, H3, (D14).trans D3⟩
              · have hfb : ((fail : Int) - 1 == 0) = false := by rw [beq_eq_false_iff_ne]; omega
                have hrs : callD ⟨quota, files, names, lasted, turns, calls, false, stop, fail⟩ = (⟨quota, files, names, lasted, turns, calls + 1, false, stop - 1, fail - 1⟩, 0) := by
                  unfold callD
                  rw [if_neg (by simp), if_neg hf, if_neg hf1, HCD.out]
                have HRS := Lib.hid hrs
                clear hrs hf hf1
                go_wp2_with fail
                go_ret
                rw [HCN.out, HRS.out]
                exact ⟨rfl, H3, (D14).trans D3⟩
end Go.Proofs.Ytnjmekjaingniaa

/-
  The walks of the disk's find, used, Used, Stop, Fail.
-/
namespace Go.Proofs.Ytnjmekjaingniaa
open Go.RowKit Go.Maps
set_option linter.unusedVariables false
set_option linter.unusedSimpArgs false

theorem mget_of {D : Mp} {s : List UInt8} {i : Nat} (h : ∀ z, D.atKey (nk s) z = fiv i) : mget D s = i := by
  unfold mget
  rw [h (fiv 0)]
  rfl
/-- a name's file's number -/
def findI (d : Dk) (s : List UInt8) : Option Nat := if Maps.has d.names (nk s) = true then some (mget d.names s) else none
theorem findI_lt {d : Dk} (hok : DkOk d) {s : List UInt8} {i : Nat} (h : findI d s = some i) : i < d.files.length := by
  unfold findI at h
  split at h
  · rename_i hh
    injection h with h
    obtain ⟨j, hj, hat⟩ := hok.nm.2 _ hh
    rw [mget_of hat] at h
    omega
  · cases h
theorem strKey : Keyed Try.prog 9 := string_keyed Try.underlying9
theorem zeroInt (w : World) : (zeroValue 3).run Try.prog w = .ok (.int .i64 0) w := by kernel_rfl
theorem key_str (s : List UInt8) (h : s.length ≤ 9223372036854775807) : keyOf Try.prog 9 (.string (tx s)) = some (nk s) := by
  have h2 := Go.WideMaps.keyOf_string_mk (P := Try.prog) Try.underlying9 (s := tx s) (by rw [tx_size]; simpa only [maxLen] using h)
  rw [tx_list] at h2
  exact h2
theorem file_cell {B : Nat} {h : Hp} {d : Dk} {w : World} (H : DiskAt B h d w) {i : Nat} (hi : i < d.files.length) : ∃ b f x, h.fa = some ⟨b, 0, none⟩ ∧ h.fl[i]? = some f ∧ d.files[i]? = some x ∧ w.cell? ⟨b, i, none⟩ = some (.pointer (some ⟨f.g, 0, none⟩)) ∧ FileAt B f x w := by
  have hl := H.flen
  have hf : h.fl[i]? = some h.fl[i] := List.getElem?_eq_getElem (by omega)
  have hx : d.files[i]? = some d.files[i] := List.getElem?_eq_getElem hi
  obtain ⟨g, hg, _, _⟩ := own_some H.files (by omega)
  obtain ⟨b, o, e, hb, hc⟩ := (Rd.own H.files).2 (by omega)
  rw [hg] at e
  injection e with e
  injection e with e1 e2
  subst e1; subst e2
  have hc2 := hc i (.pointer (some ⟨h.fl[i].g, 0, none⟩)) (by simp [pfs, hf])
  rw [Nat.zero_add] at hc2
  exact ⟨g, h.fl[i], d.files[i], hg, hf, hx, hc2, H.each i _ _ hf hx⟩
set_option maxRecDepth 100000 in
theorem find_any {B : Nat} {h : Hp} {d : Dk} {w : World} (H : DiskAt B h d w) (hok : DkOk d) (s : List UInt8) (hs : s.length ≤ 9223372036854775807) :
    Calls Try.prog 43 #[.pointer (some ⟨h.g, 0, none⟩), .string (tx s)] w fun e w' => w = w' ∧ ((findI d s = none ∧ e = .returned (.pointer none)) ∨
      (∃ i f x, findI d s = some i ∧ h.fl[i]? = some f ∧ d.files[i]? = some x ∧ e = .returned (.pointer (some ⟨f.g, 0, none⟩)))) := by
  have c2 : w.cell? ⟨h.g, 2, none⟩ = some (.map (some h.nb)) := blk_cell H.hd 2
  have hkey := key_str s hs
  cases hh : Maps.has d.names (nk s) with
  | false =>
    have hfi : findI d s = none := by unfold findI; rw [hh]; rfl
    have HF := Lib.hid hfi
    have HK := Lib.hid hkey
    have HH := Lib.hid hh
    clear hfi hkey hh
    go_enter Try.func43, Try.ntmps43
    go_wp2_with (at_lookup; refine wpList_lookup_own_ok_int _ rfl _ _ 77 rfl 9 3 .i64 strKey Try.underlying77 Try.underlying3 (zeroInt _) h.nb _ d.names rfl H.names _ _ rfl HK.out ?_; intro c hat hwc; rw [HH.out])
    go_ret
    exact ⟨rfl, .inl ⟨HF.out, rfl⟩⟩
  | true =>
    obtain ⟨i, hi, hat0⟩ := hok.nm.2 _ hh
    have hfi : findI d s = some i := by unfold findI; rw [hh, if_pos rfl, mget_of hat0]
    obtain ⟨b, f, x, hfa, hf, hx, hc, hF⟩ := file_cell H hi
    have c1 : w.cell? ⟨h.g, 1, none⟩ = some (.slice (some ⟨b, 0, none⟩) d.files.length h.fc) := by have := blk_cell H.hd 1; rw [← hfa]; exact this
    have i1 : (i : Int) < (d.files.length : Int) := by omega
    have HF := Lib.hid hfi
    have HK := Lib.hid hkey
    have HH := Lib.hid hh
    have HA := Lib.hid hat0
    have HFF := Lib.hid hf
    have HX := Lib.hid hx
    clear hfi hkey hh hat0 hf hx hfa
    go_enter Try.func43, Try.ntmps43
    go_wp2_with (at_lookup; refine wpList_lookup_own_ok_int _ rfl _ _ 77 rfl 9 3 .i64 strKey Try.underlying77 Try.underlying3 (zeroInt _) h.nb _ d.names rfl H.names _ _ rfl HK.out ?_; intro c hat hwc; rw [HH.out]; have hci : c = (i : Int) := (by have h9 := HA.out (.lit (.int .i64 0)); rw [hat] at h9; unfold fiv at h9; injection h9 with h9; injection h9); rw [hci]; clear hci hat hwc)
    go_ret
    exact ⟨rfl, .inr ⟨i, f, x, HF.out, HFF.out, HX.out, rfl⟩⟩
end Go.Proofs.Ytnjmekjaingniaa

/-
  The walks of the disk's used, Used, Stop, Fail.
-/
namespace Go.Proofs.Ytnjmekjaingniaa
open Go.RowKit Go.Maps
set_option linter.unusedVariables false
set_option linter.unusedSimpArgs false

def fidx (v : Mp) : Nat := match v with | .lit (.int .i64 c) => c.toNat | _ => 0
def flenAt (fs : List Fi) (v : Mp) : Nat := (fs.getD (fidx v) ⟨[], 0⟩).b.length
/-- the sum over those that were told already -/
def usedS (fs : List Fi) (left : Lit → Bool) : List (Lit × Mp) → Nat
  | [] => 0
  | p :: r => (if left p.1 = true then 0 else flenAt fs p.2) + usedS fs left r
def usedM (fs : List Fi) (D : Mp) : Nat := match D with | .map es => usedS fs (fun _ => false) es | _ => 0
def usedD (d : Dk) : Nat := usedM d.files d.names
theorem usedS_le (fs : List Fi) (left : Lit → Bool) (hf : ∀ f ∈ fs, f.b.length ≤ 250000) : ∀ es : List (Lit × Mp), usedS fs left es ≤ es.length * 250000
  | [] => Nat.le_refl _
  | p :: r => by
    have h := usedS_le fs left hf r
    have h2 : flenAt fs p.2 ≤ 250000 := by
      unfold flenAt
      rw [List.getD_eq_getElem?_getD]
      cases hx : fs[fidx p.2]? with
      | none => exact Nat.zero_le _
      | some x => exact hf x (List.mem_of_getElem? hx)
    unfold usedS
    rw [List.length_cons]
    split <;> omega
theorem usedS_all (fs : List Fi) (left : Lit → Bool) : ∀ es : List (Lit × Mp), (∀ p ∈ es, left p.1 = true) → usedS fs left es = 0
  | [], _ => rfl
  | p :: r, h => by
    unfold usedS
    rw [if_pos (h p (List.mem_cons_self ..)), usedS_all fs left r (fun q hq => h q (List.mem_cons_of_mem _ hq))]
theorem usedS_congr (fs : List Fi) (left left' : Lit → Bool) : ∀ es : List (Lit × Mp), (∀ p ∈ es, left p.1 = left' p.1) → usedS fs left es = usedS fs left' es
  | [], _ => rfl
  | p :: r, h => by
    unfold usedS
    rw [h p (List.mem_cons_self ..), usedS_congr fs left left' r (fun q hq => h q (List.mem_cons_of_mem _ hq))]
theorem sameKey_self {a : Lit} (h : WideAt.IsKeyLit a) : a.sameKey a = true := by
  cases a <;> simp_all [WideAt.IsKeyLit, Lit.sameKey]
theorem usedS_step (fs : List Fi) (left : Lit → Bool) (kl : Lit) (hk : WideAt.IsKeyLit kl) (hl : left kl = true) : ∀ es : List (Lit × Mp), es.Pairwise (fun p q => p.1 ≠ q.1) → ∀ p ∈ es, p.1 = kl → usedS fs (fun z => left z && !z.sameKey kl) es = usedS fs left es + flenAt fs p.2
  | [], _, p, hp, _ => by cases hp
  | q :: r, hpw, p, hp, he => by
    obtain ⟨h1, h2⟩ := List.pairwise_cons.1 hpw
    rcases List.mem_cons.1 hp with rfl | hp
    · have hr : usedS fs (fun z => left z && !z.sameKey kl) r = usedS fs left r := usedS_congr fs _ _ r (fun x hx => by
        have h9 := h1 x hx
        rw [he] at h9
        rw [Maps.sameKey_ne (fun e => h9 e.symm)]
        simp)
      unfold usedS
      rw [hr, he, hl, sameKey_self hk]
      simp
      omega
    · have hr := usedS_step fs left kl hk hl r h2 p hp he
      have h9 := h1 p hp
      rw [he] at h9
      unfold usedS
      rw [hr, Maps.sameKey_ne h9]
      simp
      omega
theorem atKey_mem {es : List (Lit × Mp)} (hpw : es.Pairwise (fun p q => p.1 ≠ q.1)) {kl : Lit} (h : Maps.has (.map es : Mp) kl = true) : ∃ p ∈ es, p.1 = kl ∧ ∀ z, (DataW.map es : Mp).atKey kl z = p.2 := by
  rw [Maps.has_eq, List.any_eq_true] at h
  obtain ⟨p, hp, hk⟩ := h
  have hke := WideAt.sameKey_eq hk
  cases hf : es.find? (fun q => q.1.sameKey kl) with
  | none => exact absurd hk (by simpa using List.find?_eq_none.1 hf p hp)
  | some q =>
    refine ⟨q, List.mem_of_find?_eq_some hf, WideAt.sameKey_eq (by simpa using List.find?_some hf), fun z => ?_⟩
    simp [DataW.atKey, hf]
theorem key_inv (key : Value) (kl : Lit) (h : keyOf Try.prog 9 key = some kl) : ∃ x, key = Value.string x := by
  rw [Go.keyOf_string Try.underlying9] at h
  cases key <;> simp [mapKey, Try.underlying9] at h
  exact ⟨_, rfl⟩
theorem val_inv (v : Value) (y : Mp × List MemPlace) (h : plainElem Try.prog 3 v = some y) : ∃ c, v = Value.int .i64 c := by
  obtain ⟨a, rfl, _⟩ := plainElem_int_inv Try.underlying3 h
  exact ⟨a, rfl⟩
set_option maxRecDepth 100000 in
set_option maxHeartbeats 800000 in
theorem used_any {B : Nat} {h : Hp} {d : Dk} {w : World} (H : DiskAt B h d w) (hok : DkOk d) :
    Calls Try.prog 44 #[.pointer (some ⟨h.g, 0, none⟩)] w fun e w' => e = .returned (.int .i64 (usedD d : Int)) ∧ Up w w' := by
  have c2 : w.cell? ⟨h.g, 2, none⟩ = some (.map (some h.nb)) := blk_cell H.hd 2
  obtain ⟨es, hes, hpw, hkl⟩ := H.names.entries strKey
  have hlen : es.length ≤ 1000000 := by have := hok.sn; rw [hes, Maps.size_eq] at this; exact this
  have hnm := hok.nm.2
  have hfb : ∀ f ∈ d.files, f.b.length ≤ 250000 := fun f hf => (hok.fb f hf).1
  have hud : usedD d = usedS d.files (fun _ => false) es := by unfold usedD; rw [hes]; rfl
  have HES := Lib.hid hes
  have HUD := Lib.hid hud
  have HNM := Lib.hid hnm
  clear hes hud hnm
  go_enter Try.func44, Try.ntmps44
  go_wp2_with (at_range; refine wpList_range_own _ rfl _ 77 rfl 9 3 strKey Try.underlying77 (plainElem Try.prog 3) h.nb _ d.names rfl H.names ?_; intro w1 hrg1 hgr1 hsz1)
  go_frame
  have hup1 : Up w w1 := ⟨hgr1.os, hgr1.tape, hgr1.output, hgr1.size, fun k hk => hgr1.block k hk (by simp)⟩
  go_loopw [3] (fun nv wr => ∃ (left : Lit → Bool) (cnt : Nat), nv = .int .i64 (usedS d.files left es : Int) ∧ wr.ranges Try.prog 9 (plainElem Try.prog 3) h.nb w.heap.size (Maps.size d.names) d.names left cnt ∧ Up w wr ∧ Hid (∀ kl, left kl = true → Maps.has d.names kl = true)) (fun _ wr => wr.rangeLeft h.nb w.heap.size)
  case atStart =>
    refine ⟨Maps.has d.names, _, ?_, hrg1, hup1, fun kl hk => hk⟩
    rw [usedS_all d.files (Maps.has d.names) es (fun p hp => by
      rw [HES.out, Maps.has_eq, List.any_eq_true]
      exact ⟨p, hp, WideAt.sameKey_self (hkl p hp)⟩)]
    rfl
  case round =>
    obtain ⟨left, cnt, rfl, hrg, hup, hsub⟩ := hrel
    clear hrg1 hgr1 hsz1 hup1
    have hT := usedS_le d.files left hfb es
    have HC := Lib.hid (fun (hl0 : ∀ kl, left kl = false) => usedS_congr d.files left (fun _ => false) es (fun p _ => hl0 p.1))
    have HS := Lib.hid (fun (kl : Lit) (hk : WideAt.IsKeyLit kl) (hl : left kl = true) => usedS_step d.files left kl hk hl es hpw)
    have hle := hrg.left_eq
    have HLE := Lib.hid hle
    clear hle
    generalize usedS d.files left es = T at *
    go_wp2_with (first
      | (at_next; refine wpList_next_ranges _ rfl _ rfl 9 strKey (plainElem Try.prog 3) Value.string (Value.int .i64) key_inv val_inv h.nb w.heap.size _ d.names left cnt rfl hrg ?_ ?_)
      | go_in)
    · intro hc0 hl0
      have hTe := HC.out hl0
      have HTE := Lib.hid hTe
      clear hrg hTe hc0 hl0
      go_wp2_with fail
      go_ret
      rw [HUD.out, HTE.out]
      exact ⟨rfl, hup⟩
    · intro x c kl y1 y2 w2 cnt2 hkx hlk hy hat hrg2 hlt hgr2 hsz2 hen
      obtain ⟨i, hi, hat0⟩ := HNM.out kl (hsub.out kl hlk)
      have hci : c = (i : Int) := by
        obtain ⟨c', e1, e2, _⟩ := plainElem_int_inv Try.underlying3 hy
        injection e1 with _ e1
        subst e1
        injection e2 with e2 _
        have h9 := hat (fiv 0)
        rw [hat0 (fiv 0), e2] at h9
        unfold fiv at h9
        injection h9 with h9
        injection h9 with _ h9
        exact h9.symm
      subst hci
      have hup2 : Up w w2 := ⟨hgr2.os.trans hup.os, hgr2.tape.trans hup.tape, hgr2.output.trans hup.output, Nat.le_trans hup.size hgr2.size, fun k hk => (hgr2.block k (Nat.lt_of_lt_of_le hk hup.size) (by simp; omega)).trans (hup.block k hk)⟩
      have H2 := H.up hup2
      obtain ⟨b, f, xx, hfa, hf, hx, hcf, hF⟩ := file_cell H2 hi
      have c1 : w2.cell? ⟨h.g, 1, none⟩ = some (.slice (some ⟨b, 0, none⟩) d.files.length h.fc) := by have := blk_cell H2.hd 1; rw [← hfa]; exact this
      have c0 : w2.cell? ⟨f.g, 0, none⟩ = some (.slice f.A xx.b.length f.c) := blk_cell hF.blk 0
      have i1 : (i : Int) < (d.files.length : Int) := by omega
      have hxl : xx.b.length ≤ 250000 := hfb xx (List.mem_of_getElem? hx)
      have hes2 := HES.out
      obtain ⟨p, hp, hpk, hpa⟩ := atKey_mem (es := es) hpw (kl := kl) (by rw [← hes2]; exact hsub.out kl hlk)
      have hfl : flenAt d.files p.2 = xx.b.length := by
        have h9 := hpa (fiv 0)
        rw [← hes2, hat0 (fiv 0)] at h9
        rw [← h9]
        unfold flenAt fidx fiv
        simp [List.getD, hx]
      have hst := HS.out kl (by rw [← hpk]; exact hkl p hp) hlk p hp hpk
      rw [hfl] at hst
      have HST := Lib.hid hst
      have HLT := Lib.hid hlt
      have HSUB : Hid (∀ z, (left z && !z.sameKey kl) = true → Maps.has d.names z = true) := fun z hz => hsub.out z (by
        rw [Bool.and_eq_true] at hz; exact hz.1)
      clear hst hlt hfl hp hpk hpa hes2 hx hf hfa hF hat hat0 hy hkx hlk hrg hsz2 hgr2 HC HS
      go_wp2_with fail
      go_roundw
      case rel =>
        refine ⟨fun z => left z && !z.sameKey kl, cnt2, ?_, hrg2, hup2, HSUB⟩
        rw [HST.out]
        rfl
      case measure =>
        rw [hrg2.left_eq, HLE.out]
        exact HLT.out
theorem fail_any {B : Nat} {h : Hp} {d : Dk} {w : World} (H : DiskAt B h d w) (n : Int) :
    Calls Try.prog 26 #[.pointer (some ⟨h.g, 0, none⟩), .int .i64 n] w fun e w' => e = .returned (.tuple #[]) ∧ DiskAt B h { d with fail := n.toNat } w' ∧ DkTo h w h w' := by
  have c8 : w.cell? ⟨h.g, 8, none⟩ = some (.int .i64 (d.fail : Int)) := blk_cell H.hd 8
  have z8 := blk_free H.hd 8
  by_cases hn : n < 0
  · have hmx : max n 0 = 0 := by omega
    obtain ⟨H1, D1⟩ := H.setHead { d with fail := n.toNat } 8 (.int .i64 0) (by simp [dcs]; omega) rfl rfl rfl rfl
    go_enter Try.func26, Try.ntmps26
    go_wp2_with fail
    exact bodyPost_end (results_none rfl _ _ _) rfl ⟨rfl, H1, D1⟩
  · have hmx : max n 0 = n := by omega
    obtain ⟨H1, D1⟩ := H.setHead { d with fail := n.toNat } 8 (.int .i64 n) (by simp [dcs]; omega) rfl rfl rfl rfl
    have hn2 : 0 ≤ n := by omega
    go_enter Try.func26, Try.ntmps26
    go_wp2_with fail
    exact bodyPost_end (results_none rfl _ _ _) rfl ⟨rfl, H1, D1⟩
end Go.Proofs.Ytnjmekjaingniaa
