/-
  Plain law: the document's ReadEdit and edit.Read are one.
-/
import Derived.Test.YtokcaoaclheiiaaEditW15
import Derived.Test.YtokcaoaclheiiaaEditLaw2
namespace Go.Proofs.Ytokcaoaclheiiaa
open Go.RowKit
set_option linter.unusedVariables false

theorem rtk_ok {most x : Nat} {s r : List UInt8} {ok : Bool} (h : rtk most s ok = (x, r, true)) : ok = true ∧ (takeL s).2.2 = 0 ∧ (takeL s).1 = x ∧ x ≤ most ∧ r = s.drop (takeL s).2.1 := by
  unfold rtk at h
  split at h
  · rename_i h1
    injection h with e1 e2
    injection e2 with e2 e3
    exact ⟨h1.1, h1.2.1, e1, by rw [← e1]; exact h1.2.2, e2.symm⟩
  · injection h with e1 e2
    injection e2 with e2 e3
    cases e3
theorem rtk_is {most x : Nat} {s r : List UInt8} (h1 : (takeL s).2.2 = 0) (h2 : (takeL s).1 = x) (h3 : x ≤ most) (h4 : r = s.drop (takeL s).2.1) : rtk most s true = (x, r, true) := by
  unfold rtk
  rw [if_pos ⟨rfl, h1, by rw [h2]; exact h3⟩, h2, h4]
/-- numbers of what is left -/
def PN : Nat → List UInt8 → Option (List UInt64 × List UInt8)
  | 0, s => some ([], s)
  | k + 1, s => if (takeL s).2.2 = 0 ∧ (takeL s).1 ≤ 281474976710656 then (PN k (s.drop (takeL s).2.1)).map fun p => (UInt64.ofNat (takeL s).1 :: p.1, p.2) else none
theorem rdGo_PN : ∀ (k : Nat) (l : List UInt8) (a : Nat) (acc : List UInt64), a ≤ l.length → rdGo k l a acc = (PN k (l.drop a)).map fun p => (acc ++ p.1, l.length - p.2.length)
  | 0, l, a, acc, h => by simp [rdGo, PN]; omega
  | k + 1, l, a, acc, h => by
    rw [rdGo, PN]
    by_cases hc : (takeL (l.drop a)).2.2 = 0 ∧ (takeL (l.drop a)).1 ≤ 281474976710656
    · rw [if_pos hc, if_pos hc]
      have h2 := takeL_ok hc.1
      rw [List.length_drop] at h2
      rw [rdGo_PN k l _ _ (by omega), List.drop_drop, Option.map_map]
      congr 1
      funext p
      simp
    · rw [if_neg hc, if_neg hc]; rfl
theorem PN_add : ∀ (a b : Nat) (s : List UInt8), PN (a + b) s = (PN a s).bind fun p => (PN b p.2).map fun t => (p.1 ++ t.1, t.2)
  | 0, b, s => by simp [PN]
  | a + 1, b, s => by
    rw [show a + 1 + b = (a + b) + 1 by omega, PN, PN]
    by_cases hc : (takeL s).2.2 = 0 ∧ (takeL s).1 ≤ 281474976710656
    · rw [if_pos hc, if_pos hc, PN_add a b]
      cases PN a (s.drop (takeL s).2.1) with
      | none => rfl
      | some p =>
        simp only [Option.bind_some, Option.map_some, Option.map_map]
        congr 1
    · rw [if_neg hc, if_neg hc]; rfl
theorem PN_len : ∀ (k : Nat) (s : List UInt8) (p : List UInt64 × List UInt8), PN k s = some p → p.1.length = k
  | 0, s, p, h => by injection h with h; subst h; rfl
  | k + 1, s, p, h => by
    rw [PN] at h
    split at h
    · rw [Option.map_eq_some_iff] at h
      obtain ⟨p0, h1, rfl⟩ := h
      simp [PN_len k _ p0 h1]
    · cases h
theorem PN_one {s r : List UInt8} {x : Nat} (h1 : (takeL s).2.2 = 0) (h2 : (takeL s).1 = x) (h3 : x ≤ 281474976710656) (h4 : r = s.drop (takeL s).2.1) : PN 1 s = some ([UInt64.ofNat x], r) := by
  rw [PN, if_pos ⟨h1, by rw [h2]; exact h3⟩, PN, h2, h4]; rfl
theorem PN_one_inv {s : List UInt8} {p : List UInt64 × List UInt8} (h : PN 1 s = some p) : ∃ x, (takeL s).2.2 = 0 ∧ (takeL s).1 = x ∧ x ≤ 281474976710656 ∧ p.2 = s.drop (takeL s).2.1 ∧ p.1 = [UInt64.ofNat x] := by
  rw [PN] at h
  split at h
  · rename_i hc
    rw [PN] at h
    injection h with h
    subst h
    exact ⟨_, hc.1, rfl, hc.2, rfl, rfl⟩
  · cases h
theorem PN_snoc {k : Nat} {s : List UInt8} {l : List UInt64} {s1 r : List UInt8} {x : Nat} (h : PN k s = some (l, s1)) (h1 : (takeL s1).2.2 = 0) (h2 : (takeL s1).1 = x) (h3 : x ≤ 281474976710656) (h4 : r = s1.drop (takeL s1).2.1) : PN (k + 1) s = some (l ++ [UInt64.ofNat x], r) := by
  rw [PN_add, h, Option.bind_some]
  show (PN 1 s1).map _ = _
  rw [PN_one h1 h2 h3 h4]; rfl
theorem PN_snoc_inv {k : Nat} {s : List UInt8} {p : List UInt64 × List UInt8} (h : PN (k + 1) s = some p) : ∃ l s1 x, PN k s = some (l, s1) ∧ (takeL s1).2.2 = 0 ∧ (takeL s1).1 = x ∧ x ≤ 281474976710656 ∧ p.2 = s1.drop (takeL s1).2.1 ∧ p.1 = l ++ [UInt64.ofNat x] := by
  rw [PN_add] at h
  cases hk : PN k s with
  | none => rw [hk] at h; cases h
  | some t =>
    rw [hk, Option.bind_some, Option.map_eq_some_iff] at h
    obtain ⟨u, h1, rfl⟩ := h
    obtain ⟨x, e1, e2, e3, e4, e5⟩ := PN_one_inv h1
    exact ⟨t.1, t.2, x, rfl, e1, e2, e3, e4, by rw [e5]⟩
theorem PN_rest {k : Nat} {s : List UInt8} {p : List UInt64 × List UInt8} (h : PN k s = some p) : p.2.length ≤ s.length := by
  induction k generalizing s p with
  | zero => injection h with h; subst h; exact Nat.le_refl _
  | succ k ih =>
    rw [PN] at h
    split at h
    · rw [Option.map_eq_some_iff] at h
      obtain ⟨p0, h1, rfl⟩ := h
      have := ih h1
      rw [List.length_drop] at this
      show p0.2.length ≤ _
      omega
    · cases h
theorem rtk_false (most : Nat) (s : List UInt8) : rtk most s false = (0, s, false) := by unfold rtk; rw [if_neg (by simp)]
theorem rfiles_false : ∀ (k : Nat) (s : List UInt8), (rfiles k (s, false)).2.2 = false
  | 0, s => rfl
  | k + 1, s => by
    have ih := rfiles_false k s
    rcases h : rfiles k (s, false) with ⟨a, b, o⟩
    rw [h] at ih
    (try dsimp only at ih)
    subst ih
    rw [rfiles, h]
    simp only [rtk_false]
theorem u64_natL {x : Nat} (h : x ≤ 281474976710656) : (UInt64.ofNat x).toNat = x := by
  rw [UInt64.toNat_ofNat_of_lt']; show x < 18446744073709551616; omega
theorem gI_here {l t : List UInt64} {x k : Nat} (hk : l.length = k) (hx : x ≤ 281474976710656) : gI (l ++ UInt64.ofNat x :: t) k = x := by
  unfold gI
  rw [List.getD, List.getElem?_append_right (by omega), hk, Nat.sub_self]
  exact u64_natL hx
theorem gI_left {l t : List UInt64} {k : Nat} (hk : k < l.length) : gI (l ++ t) k = gI l k := by
  unfold gI
  rw [List.getD, List.getD, List.getElem?_append_left hk]
theorem prs_left {l t : List UInt64} {k : Nat} (hk : 2 * k ≤ l.length) : prs (l ++ t) k = prs l k := by
  unfold prs
  apply List.map_congr_left
  intro i hi
  rw [List.mem_range] at hi
  rw [gI_left (by omega), gI_left (by omega)]
theorem rfiles_PN : ∀ (k : Nat) (s r : List UInt8) (add : List Fl), rfiles k (s, true) = (add, (r, true)) → ∃ l, PN (2 * k) s = some (l, r) ∧ add = prs l k
  | 0, s, r, add, h => by
    rw [rfiles] at h
    injection h with h1 h2
    injection h2 with h2 h3
    exact ⟨[], by rw [PN, h2], h1.symm⟩
  | k + 1, s, r, add, h => by
    rcases ht : rfiles k (s, true) with ⟨add0, st⟩
    obtain ⟨b, ok⟩ := st
    rw [rfiles, ht] at h
    (try dsimp only at h)
    rcases ha : rtk 3 b ok with ⟨lv, s1, o1⟩
    rw [ha] at h
    (try dsimp only at h)
    rcases hb : rtk 1073741824 s1 o1 with ⟨nu, s2, o2⟩
    rw [hb] at h
    (try dsimp only at h)
    injection h with h1 h2
    injection h2 with h2 h3
    subst h3; subst h2
    obtain ⟨rfl, b1, b2, b3, b4⟩ := rtk_ok hb
    obtain ⟨rfl, a1, a2, a3, a4⟩ := rtk_ok ha
    obtain ⟨l, hl, rfl⟩ := rfiles_PN k s b add0 ht
    have hlen := PN_len _ _ _ hl
    (try dsimp only at hlen)
    refine ⟨l ++ [UInt64.ofNat lv] ++ [UInt64.ofNat nu], PN_snoc (PN_snoc hl a1 a2 (by omega) a4) b1 b2 (by omega) b4, ?_⟩
    rw [← h1, prs_succ, List.append_assoc, prs_left (by omega)]
    have e1 : gI (l ++ ([UInt64.ofNat lv] ++ [UInt64.ofNat nu])) (2 * k) = lv := gI_here hlen (by omega)
    have e2 : gI (l ++ ([UInt64.ofNat lv] ++ [UInt64.ofNat nu])) (2 * k + 1) = nu := by
      rw [← List.append_assoc]; exact gI_here (by simp [hlen]) (by omega)
    rw [e1, e2]
theorem PN_rfiles : ∀ (k : Nat) (s r : List UInt8) (l : List UInt64), PN (2 * k) s = some (l, r) → (∀ f ∈ prs l k, fileOk f = true) → rfiles k (s, true) = (prs l k, (r, true))
  | 0, s, r, l, h, _ => by
    rw [PN] at h
    injection h with h
    injection h with h1 h2
    rw [rfiles, ← h2]; rfl
  | k + 1, s, r, l, h, hall => by
    obtain ⟨l1, s1, nu, h1, b1, b2, b3, b4, rfl⟩ := PN_snoc_inv (k := 2 * k + 1) (p := (l, r)) h
    obtain ⟨l0, s0, lv, h0, a1, a2, a3, a4, rfl⟩ := PN_snoc_inv (k := 2 * k) (p := (l1, s1)) h1
    have hlen := PN_len _ _ _ h0
    (try dsimp only at hlen a4 b4)
    have e1 : gI (l0 ++ [UInt64.ofNat lv] ++ [UInt64.ofNat nu]) (2 * k) = lv := by rw [List.append_assoc]; exact gI_here hlen a3
    have e2 : gI (l0 ++ [UInt64.ofNat lv] ++ [UInt64.ofNat nu]) (2 * k + 1) = nu := gI_here (by simp [hlen]) b3
    have e3 : prs (l0 ++ [UInt64.ofNat lv] ++ [UInt64.ofNat nu]) k = prs l0 k := by rw [List.append_assoc]; exact prs_left (by omega)
    rw [prs_succ, e1, e2, e3] at hall ⊢
    have ih := PN_rfiles k s s0 l0 h0 fun f hf => hall f (List.mem_append_left _ hf)
    have hb := fileOk_b (hall _ (List.mem_append_right _ List.mem_cons_self))
    (try dsimp only at hb)
    rw [rfiles, ih]
    have r1 : rtk 3 s0 true = (lv, s1, true) := rtk_is a1 a2 (by omega) a4
    have r2 : rtk 1073741824 s1 true = (nu, r, true) := rtk_is b1 b2 (by omega) b4
    simp only [r1, r2]
theorem minD_idD {q : List UInt64} (h : ∀ x ∈ q, x.toNat ≤ 1073741824) : q.map minD = q.map idD := by
  apply List.map_congr_left
  intro x hx
  have := h x hx
  unfold minD capN idD
  rw [if_neg (by omega)]
theorem minD_ok {q : List UInt64} (h : (q.map minD).all numOk = true) : ∀ x ∈ q, x.toNat ≤ 1073741824 := by
  intro x hx
  have h1 := List.all_eq_true.1 h (minD x) (List.mem_map_of_mem hx)
  have h2 := of_decide_eq_true h1
  unfold minD capN at h2
  by_cases h3 : 1073741825 < x.toNat
  · rw [if_pos h3] at h2; omega
  · rw [if_neg h3] at h2; omega
theorem mayE_parts {ds : List Int} {add : List Fl} {lg : Int} {f ce at_ le : Nat} (hm : mayE ds add lg f ce at_ le = true) : ds.all numOk = true ∧ (∀ x ∈ add, fileOk x = true) ∧ lg ≤ 1073741824 := by
  simp only [mayE, Bool.and_eq_true, decide_eq_true_eq] at hm
  obtain ⟨m1, m2, m3, m4, m5, m6, m7⟩ := hm
  exact ⟨m6, List.all_eq_true.1 m7, m4⟩
theorem readR_eq (bs : List UInt8) : readR bs = readE bs := by
  apply Option.ext
  intro e
  rcases hu : unlistL bs 40 with ⟨q, qa, qe⟩
  have hqa := unlistL_at bs 40
  rw [hu] at hqa
  (try dsimp only at hqa)
  constructor
  · intro h
    unfold readR at h
    rw [hu] at h
    (try dsimp only at h)
    by_cases h0 : qe = 0
    · rw [if_neg (by simp [h0])] at h
      by_cases h1 : (q.any fun x => decide (1073741824 < x.toNat)) = true
      · rw [if_pos h1] at h; cases h
      · rw [if_neg h1] at h
        by_cases h2 : (takeL (bs.drop qa)).2.2 ≠ 0 ∨ 40 < (takeL (bs.drop qa)).1
        · rw [if_pos h2] at h; cases h
        · rw [if_neg h2] at h
          have h2a : (takeL (bs.drop qa)).2.2 = 0 := by by_cases hx : (takeL (bs.drop qa)).2.2 = 0; exact hx; exact absurd (.inl hx) h2
          have h2b : (takeL (bs.drop qa)).1 ≤ 40 := by by_cases hx : 40 < (takeL (bs.drop qa)).1; exact absurd (.inr hx) h2; omega
          have hsz := takeL_ok h2a
          rw [List.length_drop] at hsz
          rw [rdGo_PN _ _ _ _ (by omega), ← List.drop_drop] at h
          obtain ⟨m, hm⟩ : ∃ m, m = (takeL (bs.drop qa)).1 := ⟨_, rfl⟩
          rw [← hm] at h h2b
          cases hP : PN (2 * m + 5) ((bs.drop qa).drop (takeL (bs.drop qa)).2.1) with
          | none => rw [hP] at h; cases h
          | some p =>
            rw [hP] at h
            obtain ⟨L, r⟩ := p
            simp only [Option.map_some, Option.bind_some, List.nil_append, endR] at h
            split at h
            · rename_i hc
              injection h with h
              obtain ⟨hc1, hc2⟩ := hc
              obtain ⟨l4, s4, x4, k4, a1, a2, a3, a4, e4⟩ := PN_snoc_inv (k := 2 * m + 4) hP
              obtain ⟨l3, s3, x3, k3, b1, b2, b3, b4, e3⟩ := PN_snoc_inv (k := 2 * m + 3) k4
              obtain ⟨l2, s2, x2, k2, c1, c2, c3, c4, e2⟩ := PN_snoc_inv (k := 2 * m + 2) k3
              obtain ⟨l1, s1, x1, k1, d1, d2, d3, d4, e1⟩ := PN_snoc_inv (k := 2 * m + 1) k2
              obtain ⟨l0, s0, x0, k0, f1, f2, f3, f4, e0⟩ := PN_snoc_inv (k := 2 * m) k1
              (try dsimp only at e4 e3 e2 e1 e0 a4 b4 c4 d4 f4)
              subst e0; subst e1; subst e2; subst e3; subst e4
              have hl0 := PN_len _ _ _ k0
              (try dsimp only at hl0)
              have g0 : gI (l0 ++ [UInt64.ofNat x0] ++ [UInt64.ofNat x1] ++ [UInt64.ofNat x2] ++ [UInt64.ofNat x3] ++ [UInt64.ofNat x4]) (2 * m) = x0 := by
                simp only [List.append_assoc]; exact gI_here hl0 f3
              have g1 : gI (l0 ++ [UInt64.ofNat x0] ++ [UInt64.ofNat x1] ++ [UInt64.ofNat x2] ++ [UInt64.ofNat x3] ++ [UInt64.ofNat x4]) (2 * m + 1) = x1 := by
                rw [List.append_assoc, List.append_assoc, List.append_assoc]; exact gI_here (by simp [hl0]) d3
              have g2 : gI (l0 ++ [UInt64.ofNat x0] ++ [UInt64.ofNat x1] ++ [UInt64.ofNat x2] ++ [UInt64.ofNat x3] ++ [UInt64.ofNat x4]) (2 * m + 2) = x2 := by
                rw [List.append_assoc, List.append_assoc]; exact gI_here (by simp [hl0]) c3
              have g3 : gI (l0 ++ [UInt64.ofNat x0] ++ [UInt64.ofNat x1] ++ [UInt64.ofNat x2] ++ [UInt64.ofNat x3] ++ [UInt64.ofNat x4]) (2 * m + 3) = x3 := by
                rw [List.append_assoc]; exact gI_here (by simp [hl0]) b3
              have g4 : gI (l0 ++ [UInt64.ofNat x0] ++ [UInt64.ofNat x1] ++ [UInt64.ofNat x2] ++ [UInt64.ofNat x3] ++ [UInt64.ofNat x4]) (2 * m + 4) = x4 := gI_here (by simp [hl0]) a3
              have gp : prs (l0 ++ [UInt64.ofNat x0] ++ [UInt64.ofNat x1] ++ [UInt64.ofNat x2] ++ [UInt64.ofNat x3] ++ [UInt64.ofNat x4]) m = prs l0 m := by
                simp only [List.append_assoc]; exact prs_left (by omega)
              rw [g0, g1, g2, g3, g4, gp] at hc2 h
              obtain ⟨y1, y2, y3⟩ := mayE_parts hc2
              have hqb : ∀ x ∈ q, x.toNat ≤ 1073741824 := by
                intro x hx
                by_cases hx2 : 1073741824 < x.toNat
                · exact absurd (List.any_eq_true.2 ⟨x, hx, by simpa using hx2⟩) h1
                · omega
              have hrf := PN_rfiles m _ _ _ k0 y2
              have hr40 : rtk 40 (bs.drop qa) true = (m, (bs.drop qa).drop (takeL (bs.drop qa)).2.1, true) := rtk_is h2a hm.symm h2b rfl
              have hr0 : rtk 1073741824 s0 true = (x0, s1, true) := rtk_is f1 f2 (by omega) f4
              have hr1 : rtk 281474976710656 s1 true = (x1, s2, true) := rtk_is d1 d2 d3 d4
              have hr2 : rtk 281474976710656 s2 true = (x2, s3, true) := rtk_is c1 c2 c3 c4
              have hr3 : rtk 281474976710656 s3 true = (x3, s4, true) := rtk_is b1 b2 b3 b4
              have hr4 : rtk 281474976710656 s4 true = (x4, r, true) := rtk_is a1 a2 a3 a4
              have hr : r = [] := by
                apply List.eq_nil_of_length_eq_zero
                have := PN_rest hP
                (try dsimp only at this hc1)
                simp only [List.length_drop] at this
                omega
              unfold readE
              simp only [hu, hr40, hrf, hr0, hr1, hr2, hr3, hr4]
              rw [if_pos ⟨h0, by first | rfl | trivial, hr, by rw [minD_idD hqb]; exact hc2⟩, minD_idD hqb]
              exact congrArg some h
            · cases h
    · rw [if_pos h0] at h; cases h
  · intro h
    unfold readE at h
    rw [hu] at h
    (try dsimp only at h)
    rcases hr40 : rtk 40 (bs.drop qa) true with ⟨m, b0, o0⟩
    rw [hr40] at h
    (try dsimp only at h)
    rcases hrf : rfiles m (b0, o0) with ⟨add, st⟩
    obtain ⟨s0, o0'⟩ := st
    rw [hrf] at h
    (try dsimp only at h)
    rcases hr0 : rtk 1073741824 s0 o0' with ⟨x0, s1, o1⟩
    rw [hr0] at h
    (try dsimp only at h)
    rcases hr1 : rtk 281474976710656 s1 o1 with ⟨x1, s2, o2⟩
    rw [hr1] at h
    (try dsimp only at h)
    rcases hr2 : rtk 281474976710656 s2 o2 with ⟨x2, s3, o3⟩
    rw [hr2] at h
    (try dsimp only at h)
    rcases hr3 : rtk 281474976710656 s3 o3 with ⟨x3, s4, o4⟩
    rw [hr3] at h
    (try dsimp only at h)
    rcases hr4 : rtk 281474976710656 s4 o4 with ⟨x4, r, o5⟩
    rw [hr4] at h
    (try dsimp only at h)
    split at h
    · rename_i hc
      obtain ⟨rfl, rfl, rfl, hc2⟩ := hc
      injection h with h
      obtain ⟨rfl, a1, a2, a3, a4⟩ := rtk_ok hr4
      obtain ⟨rfl, b1, b2, b3, b4⟩ := rtk_ok hr3
      obtain ⟨rfl, c1, c2, c3, c4⟩ := rtk_ok hr2
      obtain ⟨rfl, d1, d2, d3, d4⟩ := rtk_ok hr1
      obtain ⟨rfl, f1, f2, f3, f4⟩ := rtk_ok hr0
      have ho0 : o0 = true := by
        cases o0
        · have h9 := rfiles_false m b0
          rw [hrf] at h9
          cases h9
        · rfl
      subst ho0
      obtain ⟨-, z1, z2, z3, z4⟩ := rtk_ok hr40
      obtain ⟨l0, k0, rfl⟩ := rfiles_PN m b0 s0 add hrf
      have hl0 := PN_len _ _ _ k0
      (try dsimp only at hl0)
      have k5 := PN_snoc (PN_snoc (PN_snoc (PN_snoc (PN_snoc k0 f1 f2 (by omega) f4) d1 d2 d3 d4) c1 c2 c3 c4) b1 b2 b3 b4) a1 a2 a3 a4
      have g0 : gI (l0 ++ [UInt64.ofNat x0] ++ [UInt64.ofNat x1] ++ [UInt64.ofNat x2] ++ [UInt64.ofNat x3] ++ [UInt64.ofNat x4]) (2 * m) = x0 := by
        simp only [List.append_assoc]; exact gI_here hl0 (by omega)
      have g1 : gI (l0 ++ [UInt64.ofNat x0] ++ [UInt64.ofNat x1] ++ [UInt64.ofNat x2] ++ [UInt64.ofNat x3] ++ [UInt64.ofNat x4]) (2 * m + 1) = x1 := by
        rw [List.append_assoc, List.append_assoc, List.append_assoc]; exact gI_here (by simp [hl0]) d3
      have g2 : gI (l0 ++ [UInt64.ofNat x0] ++ [UInt64.ofNat x1] ++ [UInt64.ofNat x2] ++ [UInt64.ofNat x3] ++ [UInt64.ofNat x4]) (2 * m + 2) = x2 := by
        rw [List.append_assoc, List.append_assoc]; exact gI_here (by simp [hl0]) c3
      have g3 : gI (l0 ++ [UInt64.ofNat x0] ++ [UInt64.ofNat x1] ++ [UInt64.ofNat x2] ++ [UInt64.ofNat x3] ++ [UInt64.ofNat x4]) (2 * m + 3) = x3 := by
        rw [List.append_assoc]; exact gI_here (by simp [hl0]) b3
      have g4 : gI (l0 ++ [UInt64.ofNat x0] ++ [UInt64.ofNat x1] ++ [UInt64.ofNat x2] ++ [UInt64.ofNat x3] ++ [UInt64.ofNat x4]) (2 * m + 4) = x4 := gI_here (by simp [hl0]) a3
      have gp : prs (l0 ++ [UInt64.ofNat x0] ++ [UInt64.ofNat x1] ++ [UInt64.ofNat x2] ++ [UInt64.ofNat x3] ++ [UInt64.ofNat x4]) m = prs l0 m := by
        simp only [List.append_assoc]; exact prs_left (by omega)
      obtain ⟨y1, y2, y3⟩ := mayE_parts hc2
      have hqb := minD_ok y1
      rw [minD_idD hqb] at hc2 h
      have hsz := takeL_ok z1
      rw [List.length_drop] at hsz
      unfold readR
      rw [hu]
      (try dsimp only)
      rw [if_neg (by simp), if_neg (by
        intro hx
        obtain ⟨x, hx1, hx2⟩ := List.any_eq_true.1 hx
        have := hqb x hx1
        simp only [decide_eq_true_eq] at hx2
        omega), if_neg (by rw [z2]; rintro (hx | hx); exact hx z1; omega), rdGo_PN _ _ _ _ (by omega), ← List.drop_drop, z2, ← z4, k5]
      simp only [Option.map_some, Option.bind_some, List.nil_append, endR]
      rw [g0, g1, g2, g3, g4, gp, if_pos ⟨by simp, hc2⟩]
      exact congrArg some h
    · cases h
end Go.Proofs.Ytokcaoaclheiiaa
